-- printed by a program of this session (wip/tools), over the translation
import Derived.Test.YtelfachmfcjpoaaPAx0
import Derived.Test.YtelfachmfcjpoaaPAx3
import Derived.Test.YtelfachmfcjpoaaEX
namespace Go.Proofs.Ytelfachmfcjpoaa.PA
open Go.RowKit Go.Proofs.YtelfachmfcjpoaaW.PrintWords Go.Proofs.YtelfachmfcjpoaaW.PrintLast Go.Proofs.YtelfachmfcjpoaaW.PrintMore
attribute [local go_sem] max2_int min2_int max_two min_two max_three min_three max_four min_four   -- for this text's walks alone
set_option linter.unusedVariables false
set_option linter.unusedSimpArgs false

/-! ### coraclelaw24_AuditParts: function 6 -/
mutual
def coraclelaw24_AuditParts.l0 : Nat → List (S44) → List (S41) → List (S41) → List (S41) → Int → Option (Bool)
  | 0, _, _, _, _, _ => none
  | k + 1, x5, x9, x10, x11, x12 => if x12 < (x9.length : Int) then (if 0 ≤ x12 then (coraclelaw24_AuditParts.l1 k x5 x9 x10 x11 x12 0 ((rd_T41 x9 x12).f0) ((rd_T41 x9 x12).f1) ((rd_T41 x9 x12).f2) ((rd_T41 x9 x12).f3)) else (none)) else ((audit_Twice.f x5 0).bind fun t188 => (if (t188.length : Int) = 0 then (some (decide ((x9.length : Int) ≥ (mx (x10.length : Int) (x11.length : Int))))) else (some false)))
def coraclelaw24_AuditParts.l1 : Nat → List (S44) → List (S41) → List (S41) → List (S41) → Int → Int → Int → Int → Int → Int → Option (Bool)
  | 0, _, _, _, _, _, _, _, _, _, _ => none
  | k + 1, x5, x9, x10, x11, x12, x14, x193000, x193001, x193002, x193003 => if x14 < (x10.length : Int) then (if 0 ≤ x14 then (if ((rd_T41 x10 x14).f0) = x193000 then (coraclelaw24_AuditParts.l1 k x5 x9 x10 x11 x12 (wrap64 (x14 + 1)) x193000 (wrap64 (x193001 - ((rd_T41 x10 x14).f1))) (wrap64 (x193002 - ((rd_T41 x10 x14).f2))) (wrap64 (x193003 - ((rd_T41 x10 x14).f3)))) else (coraclelaw24_AuditParts.l1 k x5 x9 x10 x11 x12 (wrap64 (x14 + 1)) x193000 x193001 x193002 x193003)) else (none)) else (coraclelaw24_AuditParts.l2 k x5 x9 x10 x11 x12 0 x193000 x193001 x193002 x193003)
def coraclelaw24_AuditParts.l2 : Nat → List (S44) → List (S41) → List (S41) → List (S41) → Int → Int → Int → Int → Int → Int → Option (Bool)
  | 0, _, _, _, _, _, _, _, _, _, _ => none
  | k + 1, x5, x9, x10, x11, x12, x15, x193000, x193001, x193002, x193003 => if x15 < (x11.length : Int) then (if 0 ≤ x15 then (if ((rd_T41 x11 x15).f0) = x193000 then (coraclelaw24_AuditParts.l2 k x5 x9 x10 x11 x12 (wrap64 (x15 + 1)) x193000 (wrap64 (x193001 - ((rd_T41 x11 x15).f1))) (wrap64 (x193002 - ((rd_T41 x11 x15).f2))) (wrap64 (x193003 - ((rd_T41 x11 x15).f3)))) else (coraclelaw24_AuditParts.l2 k x5 x9 x10 x11 x12 (wrap64 (x15 + 1)) x193000 x193001 x193002 x193003)) else (none)) else (if x193001 = 0 then (if x193002 = 0 then (if x193003 = 0 then (coraclelaw24_AuditParts.l0 k x5 x9 x10 x11 (wrap64 (x12 + 1))) else (some false)) else (some false)) else (some false))
end
def coraclelaw24_AuditParts.f (k : Nat) (l0 : List (S32)) (l1 : List (S32)) : Option (Bool) := (coraclelaw24_speaks.f).bind fun t157 => (if t157 = true then ((coraclelaw24_rows.f k l0).bind fun bt158 => ((coraclelaw24_rows.f k l1).bind fun bt164 => ((some (([] : List (S44)) : List (S44))).bind fun y170 => (if y170.length + bt158.1.length < 2932031007402 then ((some (y170 ++ bt158.1 : List (S44))).bind fun y173 => (if y173.length + bt164.1.length < 2932031007402 then ((audit_Totals.f (y173 ++ bt164.1)).bind fun t179 => ((audit_Totals.f bt158.1).bind fun t182 => ((audit_Totals.f bt164.1).bind fun t185 => (coraclelaw24_AuditParts.l0 k bt158.1 t179 t182 t185 0)))) else (none))) else (none))))) else (some false))
theorem coraclelaw24_AuditParts.mono_l : ∀ k, (∀ y0 y1 y2 y3 y4, LeO (coraclelaw24_AuditParts.l0 k y0 y1 y2 y3 y4) (coraclelaw24_AuditParts.l0 (k + 1) y0 y1 y2 y3 y4)) ∧ (∀ y0 y1 y2 y3 y4 y5 y6 y7 y8 y9, LeO (coraclelaw24_AuditParts.l1 k y0 y1 y2 y3 y4 y5 y6 y7 y8 y9) (coraclelaw24_AuditParts.l1 (k + 1) y0 y1 y2 y3 y4 y5 y6 y7 y8 y9)) ∧ (∀ y0 y1 y2 y3 y4 y5 y6 y7 y8 y9, LeO (coraclelaw24_AuditParts.l2 k y0 y1 y2 y3 y4 y5 y6 y7 y8 y9) (coraclelaw24_AuditParts.l2 (k + 1) y0 y1 y2 y3 y4 y5 y6 y7 y8 y9))
  | 0 => ⟨fun _ _ _ _ _ r h => by simp [coraclelaw24_AuditParts.l0] at h, fun _ _ _ _ _ _ _ _ _ _ r h => by simp [coraclelaw24_AuditParts.l1] at h, fun _ _ _ _ _ _ _ _ _ _ r h => by simp [coraclelaw24_AuditParts.l2] at h⟩
  | k + 1 => by
    obtain ⟨ih0, ih1, ih2⟩ := coraclelaw24_AuditParts.mono_l k
    refine ⟨?_, ?_, ?_⟩
    · intro y0 y1 y2 y3 y4
      unfold coraclelaw24_AuditParts.l0
      repeat' first
      | (with_reducible exact ih0 _ _ _ _ _)
      | (with_reducible exact ih1 _ _ _ _ _ _ _ _ _ _)
      | (with_reducible exact ih2 _ _ _ _ _ _ _ _ _ _)
      | (with_reducible exact coraclelaw24_rows.mono _ _)
      | (with_reducible exact LeO.refl _)
      | (with_reducible exact LeO.none _)
      | (with_reducible refine LeO.ite ?_ ?_)
      | (with_reducible refine LeO.bind ?_ (fun _ => ?_))
      | exact ih0 _ _ _ _ _
      | exact ih1 _ _ _ _ _ _ _ _ _ _
      | exact ih2 _ _ _ _ _ _ _ _ _ _
      | exact coraclelaw24_rows.mono _ _
      | exact LeO.none _
      | refine LeO.ite ?_ ?_
      | refine LeO.bind ?_ (fun _ => ?_)
    · intro y0 y1 y2 y3 y4 y5 y6 y7 y8 y9
      unfold coraclelaw24_AuditParts.l1
      repeat' first
      | (with_reducible exact ih0 _ _ _ _ _)
      | (with_reducible exact ih1 _ _ _ _ _ _ _ _ _ _)
      | (with_reducible exact ih2 _ _ _ _ _ _ _ _ _ _)
      | (with_reducible exact coraclelaw24_rows.mono _ _)
      | (with_reducible exact LeO.refl _)
      | (with_reducible exact LeO.none _)
      | (with_reducible refine LeO.ite ?_ ?_)
      | (with_reducible refine LeO.bind ?_ (fun _ => ?_))
      | exact ih0 _ _ _ _ _
      | exact ih1 _ _ _ _ _ _ _ _ _ _
      | exact ih2 _ _ _ _ _ _ _ _ _ _
      | exact coraclelaw24_rows.mono _ _
      | exact LeO.none _
      | refine LeO.ite ?_ ?_
      | refine LeO.bind ?_ (fun _ => ?_)
    · intro y0 y1 y2 y3 y4 y5 y6 y7 y8 y9
      unfold coraclelaw24_AuditParts.l2
      repeat' first
      | (with_reducible exact ih0 _ _ _ _ _)
      | (with_reducible exact ih1 _ _ _ _ _ _ _ _ _ _)
      | (with_reducible exact ih2 _ _ _ _ _ _ _ _ _ _)
      | (with_reducible exact coraclelaw24_rows.mono _ _)
      | (with_reducible exact LeO.refl _)
      | (with_reducible exact LeO.none _)
      | (with_reducible refine LeO.ite ?_ ?_)
      | (with_reducible refine LeO.bind ?_ (fun _ => ?_))
      | exact ih0 _ _ _ _ _
      | exact ih1 _ _ _ _ _ _ _ _ _ _
      | exact ih2 _ _ _ _ _ _ _ _ _ _
      | exact coraclelaw24_rows.mono _ _
      | exact LeO.none _
      | refine LeO.ite ?_ ?_
      | refine LeO.bind ?_ (fun _ => ?_)
theorem coraclelaw24_AuditParts.mono : ∀ a0 a1 k, LeO (coraclelaw24_AuditParts.f k a0 a1) (coraclelaw24_AuditParts.f (k + 1) a0 a1) := by
  intro a0 a1 k
  obtain ⟨ih0, ih1, ih2⟩ := coraclelaw24_AuditParts.mono_l k
  unfold coraclelaw24_AuditParts.f
  repeat' first
      | (with_reducible exact ih0 _ _ _ _ _)
      | (with_reducible exact ih1 _ _ _ _ _ _ _ _ _ _)
      | (with_reducible exact ih2 _ _ _ _ _ _ _ _ _ _)
      | (with_reducible exact coraclelaw24_rows.mono _ _)
      | (with_reducible exact LeO.refl _)
      | (with_reducible exact LeO.none _)
      | (with_reducible refine LeO.ite ?_ ?_)
      | (with_reducible refine LeO.bind ?_ (fun _ => ?_))
      | exact ih0 _ _ _ _ _
      | exact ih1 _ _ _ _ _ _ _ _ _ _
      | exact ih2 _ _ _ _ _ _ _ _ _ _
      | exact coraclelaw24_rows.mono _ _
      | exact LeO.none _
      | refine LeO.ite ?_ ?_
      | refine LeO.bind ?_ (fun _ => ?_)
def coraclelaw24_AuditParts.T14 : Bool × List (List Nat × List Nat) := (true, [([], []), ([], []), ([0, 1], [0, 1]), ([2], [2]), ([3], [3]), ([], []), ([5], [5]), ([4, 6], [4, 6])])
def coraclelaw24_AuditParts.B14 : List Nat := [0, 0, 3, 7, 15, 0, 32, 127]
theorem coraclelaw24_AuditParts.tab14 : rtab .any (opsOf Try.f6 14) = coraclelaw24_AuditParts.T14 := by kernel_rfl
theorem coraclelaw24_AuditParts.bits14 : waitsOk coraclelaw24_AuditParts.T14.2 coraclelaw24_AuditParts.B14 = true := by kernel_rfl
def coraclelaw24_AuditParts.T15 : Bool × List (List Nat × List Nat) := (true, [([], []), ([0], [0]), ([], []), ([], []), ([2, 3], [2, 3]), ([4], [4]), ([5], [5]), ([1, 6], [1, 6]), ([], []), ([8], [8]), ([], []), ([], []), ([10, 11], [10, 11]), ([12], [12]), ([13], [13]), ([9, 14], [9, 14]), ([], []), ([16], [16]), ([], []), ([], []), ([18, 19], [18, 19]), ([20], [20]), ([21], [21]), ([17, 22], [17, 22]), ([0, 1, 2, 3, 4, 5, 6, 7, 8, 9, 16, 17], []), ([24, 7, 0, 1, 2, 3, 4, 5, 6, 7, 8, 9, 16, 17], [7, 24]), ([0, 1, 2, 3, 4, 5, 6, 7, 8, 9, 10, 11, 12, 13, 14, 15, 16, 17, 24, 25], []), ([26, 15, 25, 0, 1, 2, 3, 4, 5, 6, 7, 8, 9, 10, 11, 12, 13, 14, 15, 16, 17, 24, 25], [15, 26]), ([0, 1, 2, 3, 4, 5, 6, 7, 8, 9, 10, 11, 12, 13, 14, 15, 16, 17, 18, 19, 20, 21, 22, 23, 24, 25, 26, 27], []), ([28, 23, 27, 0, 1, 2, 3, 4, 5, 6, 7, 8, 9, 10, 11, 12, 13, 14, 15, 16, 17, 18, 19, 20, 21, 22, 23, 24, 25, 26, 27], [23, 28])])
def coraclelaw24_AuditParts.B15 : List Nat := [0, 1, 0, 0, 12, 28, 60, 127, 0, 256, 0, 0, 3072, 7168, 15360, 32512, 0, 65536, 0, 0, 786432, 1835008, 3932160, 8323072, 197631, 16974847, 50593791, 117702655, 268435455, 536870911]
theorem coraclelaw24_AuditParts.tab15 : rtab .any (opsOf Try.f6 15) = coraclelaw24_AuditParts.T15 := by kernel_rfl
theorem coraclelaw24_AuditParts.bits15 : waitsOk coraclelaw24_AuditParts.T15.2 coraclelaw24_AuditParts.B15 = true := by kernel_rfl
def coraclelaw24_AuditParts.T19 : Bool × List (List Nat × List Nat) := (true, [([], []), ([], []), ([0, 1], [0, 1]), ([2], [2]), ([3], [3]), ([], []), ([5], [5]), ([4, 6], [4, 6])])
def coraclelaw24_AuditParts.B19 : List Nat := [0, 0, 3, 7, 15, 0, 32, 127]
theorem coraclelaw24_AuditParts.tab19 : rtab .any (opsOf Try.f6 19) = coraclelaw24_AuditParts.T19 := by kernel_rfl
theorem coraclelaw24_AuditParts.bits19 : waitsOk coraclelaw24_AuditParts.T19.2 coraclelaw24_AuditParts.B19 = true := by kernel_rfl
def coraclelaw24_AuditParts.T20 : Bool × List (List Nat × List Nat) := (true, [([], []), ([0], [0]), ([], []), ([], []), ([2, 3], [2, 3]), ([4], [4]), ([5], [5]), ([1, 6], [1, 6]), ([], []), ([8], [8]), ([], []), ([], []), ([10, 11], [10, 11]), ([12], [12]), ([13], [13]), ([9, 14], [9, 14]), ([], []), ([16], [16]), ([], []), ([], []), ([18, 19], [18, 19]), ([20], [20]), ([21], [21]), ([17, 22], [17, 22]), ([0, 1, 2, 3, 4, 5, 6, 7, 8, 9, 16, 17], []), ([24, 7, 0, 1, 2, 3, 4, 5, 6, 7, 8, 9, 16, 17], [7, 24]), ([0, 1, 2, 3, 4, 5, 6, 7, 8, 9, 10, 11, 12, 13, 14, 15, 16, 17, 24, 25], []), ([26, 15, 25, 0, 1, 2, 3, 4, 5, 6, 7, 8, 9, 10, 11, 12, 13, 14, 15, 16, 17, 24, 25], [15, 26]), ([0, 1, 2, 3, 4, 5, 6, 7, 8, 9, 10, 11, 12, 13, 14, 15, 16, 17, 18, 19, 20, 21, 22, 23, 24, 25, 26, 27], []), ([28, 23, 27, 0, 1, 2, 3, 4, 5, 6, 7, 8, 9, 10, 11, 12, 13, 14, 15, 16, 17, 18, 19, 20, 21, 22, 23, 24, 25, 26, 27], [23, 28])])
def coraclelaw24_AuditParts.B20 : List Nat := [0, 1, 0, 0, 12, 28, 60, 127, 0, 256, 0, 0, 3072, 7168, 15360, 32512, 0, 65536, 0, 0, 786432, 1835008, 3932160, 8323072, 197631, 16974847, 50593791, 117702655, 268435455, 536870911]
theorem coraclelaw24_AuditParts.tab20 : rtab .any (opsOf Try.f6 20) = coraclelaw24_AuditParts.T20 := by kernel_rfl
theorem coraclelaw24_AuditParts.bits20 : waitsOk coraclelaw24_AuditParts.T20.2 coraclelaw24_AuditParts.B20 = true := by kernel_rfl
set_option maxHeartbeats 8000000 in
set_option maxRecDepth 100000 in
theorem coraclelaw24_AuditParts.calls (k : Nat) (A0 : Option Addr) (c0 : Nat) (l0 : List (S32)) (A1 : Option Addr) (c1 : Nat) (l1 : List (S32)) (r : Bool) (w : World) (hr0 : Kd.C k32 w A0 l0.length l0) (hc0 : l0.length ≤ c0) (hr1 : Kd.C k32 w A1 l1.length l1) (hc1 : l1.length ≤ c1) (h : coraclelaw24_AuditParts.f k l0 l1 = some r) :
    Calls Try.prog 6 #[.slice A0 l0.length c0, .slice A1 l1.length c1] w fun e w' => e = .returned (.bool r) ∧ Below w.heap.size w w' := by
  have hu41 := Try.underlying41
  have HR0 := Aside0.mk hr0
  have HC0 := Aside0.mk hc0
  clear hr0 hc0
  have HR1 := Aside0.mk hr1
  have HC1 := Aside0.mk hc1
  clear hr1 hc1
  have HB := Aside0.mk (Below.refl w.heap.size w)
  have H : ((coraclelaw24_speaks.f).bind fun t157 => (if t157 = true then ((coraclelaw24_rows.f k l0).bind fun bt158 => ((coraclelaw24_rows.f k l1).bind fun bt164 => ((some (([] : List (S44)) : List (S44))).bind fun y170 => (if y170.length + bt158.1.length < 2932031007402 then ((some (y170 ++ bt158.1 : List (S44))).bind fun y173 => (if y173.length + bt164.1.length < 2932031007402 then ((audit_Totals.f (y173 ++ bt164.1)).bind fun t179 => ((audit_Totals.f bt158.1).bind fun t182 => ((audit_Totals.f bt164.1).bind fun t185 => (coraclelaw24_AuditParts.l0 k bt158.1 t179 t182 t185 0)))) else (none))) else (none))))) else (some false))) = some r := h
  clear h
  replace H := Option.bind_eq_some_iff.mp H
  obtain ⟨t157, A30, H⟩ := H
  replace H : (if t157 = true then ((coraclelaw24_rows.f k l0).bind fun bt158 => ((coraclelaw24_rows.f k l1).bind fun bt164 => ((some (([] : List (S44)) : List (S44))).bind fun y170 => (if y170.length + bt158.1.length < 2932031007402 then ((some (y170 ++ bt158.1 : List (S44))).bind fun y173 => (if y173.length + bt164.1.length < 2932031007402 then ((audit_Totals.f (y173 ++ bt164.1)).bind fun t179 => ((audit_Totals.f bt158.1).bind fun t182 => ((audit_Totals.f bt164.1).bind fun t185 => (coraclelaw24_AuditParts.l0 k bt158.1 t179 t182 t185 0)))) else (none))) else (none))))) else (some false)) = some r := H
  have A3 := Aside0.mk A30
  clear A30
  by_cases c4 : t157 = true
  · subst c4
    have H1 : ((coraclelaw24_rows.f k l0).bind fun bt158 => ((coraclelaw24_rows.f k l1).bind fun bt164 => ((some (([] : List (S44)) : List (S44))).bind fun y170 => (if y170.length + bt158.1.length < 2932031007402 then ((some (y170 ++ bt158.1 : List (S44))).bind fun y173 => (if y173.length + bt164.1.length < 2932031007402 then ((audit_Totals.f (y173 ++ bt164.1)).bind fun t179 => ((audit_Totals.f bt158.1).bind fun t182 => ((audit_Totals.f bt164.1).bind fun t185 => (coraclelaw24_AuditParts.l0 k bt158.1 t179 t182 t185 0)))) else (none))) else (none))))) = some r := by rw [if_pos rfl] at H; exact H
    clear H
    have H := H1
    clear H1
    replace H := Option.bind_eq_some_iff.mp H
    obtain ⟨⟨t158, t159⟩, A50, H⟩ := H
    replace H : ((coraclelaw24_rows.f k l1).bind fun bt164 => ((some (([] : List (S44)) : List (S44))).bind fun y170 => (if y170.length + t158.length < 2932031007402 then ((some (y170 ++ t158 : List (S44))).bind fun y173 => (if y173.length + bt164.1.length < 2932031007402 then ((audit_Totals.f (y173 ++ bt164.1)).bind fun t179 => ((audit_Totals.f t158).bind fun t182 => ((audit_Totals.f bt164.1).bind fun t185 => (coraclelaw24_AuditParts.l0 k t158 t179 t182 t185 0)))) else (none))) else (none)))) = some r := H
    have A5 := Aside0.mk A50
    clear A50
    replace H := Option.bind_eq_some_iff.mp H
    obtain ⟨⟨t164, t165⟩, A60, H⟩ := H
    replace H : ((some (([] : List (S44)) : List (S44))).bind fun y170 => (if y170.length + t158.length < 2932031007402 then ((some (y170 ++ t158 : List (S44))).bind fun y173 => (if y173.length + t164.length < 2932031007402 then ((audit_Totals.f (y173 ++ t164)).bind fun t179 => ((audit_Totals.f t158).bind fun t182 => ((audit_Totals.f t164).bind fun t185 => (coraclelaw24_AuditParts.l0 k t158 t179 t182 t185 0)))) else (none))) else (none))) = some r := H
    have A6 := Aside0.mk A60
    clear A60
    obtain ⟨y170, hy170⟩ : ∃ y_ : List (S44), y_ = (([] : List (S44))) := ⟨_, rfl⟩
    replace H : (if y170.length + t158.length < 2932031007402 then ((some (y170 ++ t158 : List (S44))).bind fun y173 => (if y173.length + t164.length < 2932031007402 then ((audit_Totals.f (y173 ++ t164)).bind fun t179 => ((audit_Totals.f t158).bind fun t182 => ((audit_Totals.f t164).bind fun t185 => (coraclelaw24_AuditParts.l0 k t158 t179 t182 t185 0)))) else (none))) else (none)) = some r := by first | (rw [hy170]; with_reducible exact H) | (have H2_ := (Option.bind_some _ _).symm.trans H; rw [hy170]; with_reducible exact H2_) | (have H2_ := (Option.bind_some _ _).symm.trans H; with_reducible exact H2_) | with_reducible exact H | (rw [hy170]; exact H) | exact H
    have Ny170 := Aside0.mk hy170
    clear hy170
    by_cases c7 : y170.length + t158.length < 2932031007402
    · rw [if_pos c7] at H
      have LMc7 := Aside0.mk c7
      clear c7
      obtain ⟨y173, hy173⟩ : ∃ y_ : List (S44), y_ = (y170 ++ t158) := ⟨_, rfl⟩
      replace H : (if y173.length + t164.length < 2932031007402 then ((audit_Totals.f (y173 ++ t164)).bind fun t179 => ((audit_Totals.f t158).bind fun t182 => ((audit_Totals.f t164).bind fun t185 => (coraclelaw24_AuditParts.l0 k t158 t179 t182 t185 0)))) else (none)) = some r := by first | (rw [hy173]; with_reducible exact H) | (have H2_ := (Option.bind_some _ _).symm.trans H; rw [hy173]; with_reducible exact H2_) | (have H2_ := (Option.bind_some _ _).symm.trans H; with_reducible exact H2_) | with_reducible exact H | (rw [hy173]; exact H) | exact H
      have Ny173 := Aside0.mk hy173
      clear hy173
      by_cases c8 : y173.length + t164.length < 2932031007402
      · rw [if_pos c8] at H
        have LMc8 := Aside0.mk c8
        clear c8
        obtain ⟨y176, hy176⟩ : ∃ y_ : List (S44), y_ = (y173 ++ t164) := ⟨_, rfl⟩
        replace H : ((audit_Totals.f y176).bind fun t179 => ((audit_Totals.f t158).bind fun t182 => ((audit_Totals.f t164).bind fun t185 => (coraclelaw24_AuditParts.l0 k t158 t179 t182 t185 0)))) = some r := by first | (rw [hy176]; with_reducible exact H) | (have H2_ := (Option.bind_some _ _).symm.trans H; rw [hy176]; with_reducible exact H2_) | (have H2_ := (Option.bind_some _ _).symm.trans H; with_reducible exact H2_) | with_reducible exact H | (rw [hy176]; exact H) | exact H
        have Ny176 := Aside0.mk hy176
        clear hy176
        replace H := Option.bind_eq_some_iff.mp H
        obtain ⟨t179, A90, H⟩ := H
        replace H : ((audit_Totals.f t158).bind fun t182 => ((audit_Totals.f t164).bind fun t185 => (coraclelaw24_AuditParts.l0 k t158 t179 t182 t185 0))) = some r := H
        have A9 := Aside0.mk A90
        clear A90
        replace H := Option.bind_eq_some_iff.mp H
        obtain ⟨t182, A100, H⟩ := H
        replace H : ((audit_Totals.f t164).bind fun t185 => (coraclelaw24_AuditParts.l0 k t158 t179 t182 t185 0)) = some r := H
        have A10 := Aside0.mk A100
        clear A100
        replace H := Option.bind_eq_some_iff.mp H
        obtain ⟨t185, A110, H⟩ := H
        replace H : (coraclelaw24_AuditParts.l0 k t158 t179 t182 t185 0) = some r := H
        have A11 := Aside0.mk A110
        clear A110
        have H' := Aside0.mk H
        clear H
        go_enter Try.func6, Try.ntmps6
        go_wp2_with (first | ((with_reducible refine gate_callee (f := 7) rfl ?_); refine goesL_ (some 16) rfl rfl Try.func7 (by kernel_rfl) rfl #[] rfl (by (try simp only [List.map_toArray, List.map_cons, List.map_nil]); first | done | rfl | (simp only [List.length_drop, List.length_take]; rfl)) ?_; (with_reducible refine (coraclelaw24_speaks.calls  true _ A3.out).mono ?_); rintro e w12 ⟨rfl, hb⟩; refine ⟨_, rfl, ?_⟩; have n0_ := Aside0.mk (below_step (by repeat (first | (with_reducible first | exact HB.out | apply below_alloc | apply pw_below_drewN | apply below_drew1) | exact HB.out)) hb); clear HB; have HB := n0_; clear n0_; (try clear hb); (try clear hb2); (try clear hk); (try clear hi)) | ((with_reducible refine gate_callee (f := 8) rfl ?_); refine goesL_ (some 20) rfl rfl Try.func8 (by kernel_rfl) rfl #[.slice A0 l0.length c0] rfl (by (try simp only [List.map_toArray, List.map_cons, List.map_nil]); first | done | rfl | (simp only [List.length_drop, List.length_take]; rfl)) ?_; (with_reducible refine (coraclelaw24_rows.calls k _ _ l0 t158 t159 _ ?side1 ?side2 A5.out).mono ?_); (case side1 => repeat (first | exact (Kd.C_below HR0.out HB.out) | (with_reducible refine Kd.C_alloc ?_ _) | (with_reducible refine Kd.C_drewN ?_ _) | (with_reducible refine Kd.C_drew ?_))); (case side2 => exact HC0.out); rintro e w13 ⟨v160, v162, rfl, ho0, ho1, hb⟩; refine ⟨_, rfl, ?_⟩; have n0_ := Aside0.mk (Kd.R_lower ho0 (below_size (by repeat (first | (with_reducible first | exact HB.out | apply below_alloc | apply pw_below_drewN | apply below_drew1) | exact HB.out)))); have n1_ := Aside0.mk (Kd.R_lower ho1 (below_size (by repeat (first | (with_reducible first | exact HB.out | apply below_alloc | apply pw_below_drewN | apply below_drew1) | exact HB.out)))); have n2_ := Aside0.mk (below_step (by repeat (first | (with_reducible first | exact HB.out | apply below_alloc | apply pw_below_drewN | apply below_drew1) | exact HB.out)) hb); clear HB; have HO161 := n0_; have HO163 := n1_; have HB := n2_; clear n0_ n1_ n2_; (try clear hb); (try clear hb2); (try clear hk); (try clear hi); (try clear ho0); (try clear ho1)) | ((with_reducible refine gate_callee (f := 8) rfl ?_); refine goesL_ (some 25) rfl rfl Try.func8 (by kernel_rfl) rfl #[.slice A1 l1.length c1] rfl (by (try simp only [List.map_toArray, List.map_cons, List.map_nil]); first | done | rfl | (simp only [List.length_drop, List.length_take]; rfl)) ?_; (with_reducible refine (coraclelaw24_rows.calls k _ _ l1 t164 t165 _ ?side1 ?side2 A6.out).mono ?_); (case side1 => repeat (first | exact (Kd.C_below HR1.out HB.out) | (with_reducible refine Kd.C_alloc ?_ _) | (with_reducible refine Kd.C_drewN ?_ _) | (with_reducible refine Kd.C_drew ?_))); (case side2 => exact HC1.out); rintro e w14 ⟨v166, v168, rfl, ho0, ho1, hb⟩; refine ⟨_, rfl, ?_⟩; have n0_ := Aside0.mk (Kd.R_elder' (by (with_reducible repeat (first | apply Kd.R_alloc | apply Kd.R_drewN | apply Kd.R_drew)); exact HO161.out) (Kd.R_base ho0) hb); have n1_ := Aside0.mk (Kd.R_elder' (by (with_reducible repeat (first | apply Kd.R_alloc | apply Kd.R_drewN | apply Kd.R_drew)); exact HO163.out) (Kd.R_base ho1) hb); have n2_ := Aside0.mk (Kd.R_lower (Kd.R_new' ho0 (Kd.R_lt (by (with_reducible repeat (first | apply Kd.R_alloc | apply Kd.R_drewN | apply Kd.R_drew)); exact HO161.out))) (below_size (by repeat (first | (with_reducible first | exact HB.out | apply below_alloc | apply pw_below_drewN | apply below_drew1) | exact HB.out)))); have n3_ := Aside0.mk (Kd.R_lower (Kd.R_new' ho1 (Kd.R_lt (by (with_reducible repeat (first | apply Kd.R_alloc | apply Kd.R_drewN | apply Kd.R_drew)); exact HO163.out))) (below_size (by repeat (first | (with_reducible first | exact HB.out | apply below_alloc | apply pw_below_drewN | apply below_drew1) | exact HB.out)))); have n4_ := Aside0.mk (below_step (by repeat (first | (with_reducible first | exact HB.out | apply below_alloc | apply pw_below_drewN | apply below_drew1) | exact HB.out)) hb); clear HO161; clear HO163; clear HB; have HO161 := n0_; have HO163 := n1_; have HO167 := n2_; have HO169 := n3_; have HB := n4_; clear n0_ n1_ n2_ n3_ n4_; (try clear hb); (try clear hb2); (try clear hk); (try clear hi); (try clear ho0); (try clear ho1)) | ((with_reducible refine gate_dst (N := 28) rfl ?_); (try (refine gate_guard (by rfl) ?_; dsimp only)); refine Kd.R_lit k44 _ 44 ?hg (N := 28) ?hd (xs := ([] : List (S44))) (inner := []) (ok := fun _ => True) (okp := fun _ => True) ?hr ?hp (fun _ hk => hk) trivial (Below.refl _ _) (Nat.le_refl _) (by simp) ?_; (case hd => rfl); (case hg => rfl); (case hr => first | (go_simp; done) | (go_simp; rfl)); (case hp => exact (Reps.none _ _)); intro v171 w15 ho16 hb hg_ hnew_; clear hg_ hnew_; (first | rw [← Ny170.out] at ho16 | (simp only [Int.reduceToNat] at ho16; rw [← Ny170.out] at ho16)); have n0_ := Aside0.mk (Kd.R_elder' (by (with_reducible repeat (first | apply Kd.R_alloc | apply Kd.R_drewN | apply Kd.R_drew)); exact HO161.out) (Kd.R_base ho16) hb); have n1_ := Aside0.mk (Kd.R_below (by (with_reducible repeat (first | apply Kd.R_alloc | apply Kd.R_drewN | apply Kd.R_drew)); exact HO163.out) hb); have n2_ := Aside0.mk (Kd.R_elder' (by (with_reducible repeat (first | apply Kd.R_alloc | apply Kd.R_drewN | apply Kd.R_drew)); exact HO167.out) (Kd.R_base ho16) hb); have n3_ := Aside0.mk (Kd.R_below (by (with_reducible repeat (first | apply Kd.R_alloc | apply Kd.R_drewN | apply Kd.R_drew)); exact HO169.out) hb); have n4_ := Aside0.mk (Kd.R_lower (Kd.R_new' (Kd.R_new' ho16 (Kd.R_lt (by (with_reducible repeat (first | apply Kd.R_alloc | apply Kd.R_drewN | apply Kd.R_drew)); exact HO161.out))) (Kd.R_lt (by (with_reducible repeat (first | apply Kd.R_alloc | apply Kd.R_drewN | apply Kd.R_drew)); exact HO167.out))) (below_size (by repeat (first | (with_reducible first | exact HB.out | apply below_alloc | apply pw_below_drewN | apply below_drew1) | exact HB.out)))); have n5_ := Aside0.mk (below_step (by repeat (first | (with_reducible first | exact HB.out | apply below_alloc | apply pw_below_drewN | apply below_drew1) | exact HB.out)) hb); clear HO161; clear HO163; clear HO167; clear HO169; clear HB; have HO161 := n0_; have HO163 := n1_; have HO167 := n2_; have HO169 := n3_; have HO172 := n4_; have HB := n5_; clear n0_ n1_ n2_ n3_ n4_ n5_; clear hb ho16; obtain ⟨Ao18, co18, eo18⟩ := Kd.R_slice HO161.out; subst eo18) | ((with_reducible refine gate_builtin (b := .append) (xs := #[.tmp 28, .tmp 29]) rfl ?_); (try (refine gate_guard (by rfl) ?_; dsimp only)); at_builtin; refine Kd.R_append_rows k44 (w0 := w) w.heap.size rfl (.tmp 28) (.tmp 29) 24 44 (.agg #[(.int .i64 0), (.int .i64 0), (.int .i64 0), (.int .i64 0), (.int .i64 0), (.bool false)]) 48 rfl Try.underlying24 info44 rfl (by decide) (by omega) v171 y170 t158 _ _ _ (fun k_ => some k_ ≠ (.slice Ao18 t158.length co18 : Value).ownBlock ∧ some k_ ≠ (v166 : Value).ownBlock) (fun _ => False) rfl rfl ?aO ?aR (fun _ _ h => h) (fun _ h => h.elim) ?aF ?aB ?aS ?aL ?_; (case aR => repeat (first | exact (Kd.R_reads' HO161.out).2.2 | (with_reducible refine Kd.C_alloc ?_ _) | (with_reducible refine Kd.C_drewN ?_ _) | (with_reducible refine Kd.C_drew ?_))); (case aB => exact (by repeat (first | (with_reducible first | exact HB.out | apply below_alloc | apply pw_below_drewN | apply below_drew1) | exact HB.out))); (case aF => exact (fun k_ hk => ⟨Kd.fresh' (Kd.R_lt (by (with_reducible repeat (first | apply Kd.R_alloc | apply Kd.R_drewN | apply Kd.R_drew)); exact HO161.out)) k_ hk, Kd.fresh' (Kd.R_lt (by (with_reducible repeat (first | apply Kd.R_alloc | apply Kd.R_drewN | apply Kd.R_drew)); exact HO167.out)) k_ hk⟩)); (case aO => exact (by (with_reducible repeat (first | apply Kd.R_alloc | apply Kd.R_drewN | apply Kd.R_drew)); exact Kd.R_mono HO172.out (fun _ hk => ⟨hk.1.2, hk.2⟩))); (case aS => exact (below_size (by repeat (first | (with_reducible first | exact HB.out | apply below_alloc | apply pw_below_drewN | apply below_drew1) | exact HB.out)))); (case aL => have := LMc7.out; omega); intro v174 w17 ho hb hg hat; rw [← Ny173.out] at ho; have n0_ := Aside0.mk (Kd.R_after (ok := (fun k_ => some k_ ≠ (v166 : Value).ownBlock)) (by (with_reducible repeat (first | apply Kd.R_alloc | apply Kd.R_drewN | apply Kd.R_drew)); exact Kd.R_mono HO161.out (fun _ hk => ⟨hk.1.2, hk.2⟩)) hg hat); have n1_ := Aside0.mk (Kd.R_over' (by (with_reducible repeat (first | apply Kd.R_alloc | apply Kd.R_drewN | apply Kd.R_drew)); exact HO163.out) (Kd.R_typed (by (with_reducible repeat (first | apply Kd.R_alloc | apply Kd.R_drewN | apply Kd.R_drew)); exact HO172.out)) (by decide) hg); have n2_ := Aside0.mk (Kd.R_after (ok := (fun k_ => some k_ ≠ (.slice Ao18 t158.length co18 : Value).ownBlock)) (by (with_reducible repeat (first | apply Kd.R_alloc | apply Kd.R_drewN | apply Kd.R_drew)); exact Kd.R_mono HO167.out (fun _ hk => ⟨hk.1.2, hk.2⟩)) hg hat); have n3_ := Aside0.mk (Kd.R_over' (by (with_reducible repeat (first | apply Kd.R_alloc | apply Kd.R_drewN | apply Kd.R_drew)); exact HO169.out) (Kd.R_typed (by (with_reducible repeat (first | apply Kd.R_alloc | apply Kd.R_drewN | apply Kd.R_drew)); exact HO172.out)) (by decide) hg); have n4_ := Aside0.mk (hb); have n5_ := Aside0.mk (ho); clear HO161; clear HO163; clear HO167; clear HO169; clear HB; clear HO172; have HO161 := n0_; have HO163 := n1_; have HO167 := n2_; have HO169 := n3_; have HB := n4_; have HO175 := n5_; clear n0_ n1_ n2_ n3_ n4_ n5_; clear ho hb hg hat; obtain ⟨Ao20, co20, eo20⟩ := Kd.R_slice HO167.out; subst eo20) | ((with_reducible refine gate_builtin (b := .append) (xs := #[.tmp 30, .tmp 31]) rfl ?_); (try (refine gate_guard (by rfl) ?_; dsimp only)); at_builtin; refine Kd.R_append_rows k44 (w0 := w) w.heap.size rfl (.tmp 30) (.tmp 31) 24 44 (.agg #[(.int .i64 0), (.int .i64 0), (.int .i64 0), (.int .i64 0), (.int .i64 0), (.bool false)]) 48 rfl Try.underlying24 info44 rfl (by decide) (by omega) v174 y173 t164 _ _ _ (fun k_ => some k_ ≠ (.slice Ao18 t158.length co18 : Value).ownBlock ∧ some k_ ≠ (.slice Ao20 t164.length co20 : Value).ownBlock) (fun _ => False) rfl rfl ?aO ?aR (fun _ _ h => h) (fun _ h => h.elim) ?aF ?aB ?aS ?aL ?_; (case aR => repeat (first | exact (Kd.R_reads' HO167.out).2.2 | (with_reducible refine Kd.C_alloc ?_ _) | (with_reducible refine Kd.C_drewN ?_ _) | (with_reducible refine Kd.C_drew ?_))); (case aB => exact (by repeat (first | (with_reducible first | exact HB.out | apply below_alloc | apply pw_below_drewN | apply below_drew1) | exact HB.out))); (case aF => exact (fun k_ hk => ⟨Kd.fresh' (Kd.R_lt (by (with_reducible repeat (first | apply Kd.R_alloc | apply Kd.R_drewN | apply Kd.R_drew)); exact HO161.out)) k_ hk, Kd.fresh' (Kd.R_lt (by (with_reducible repeat (first | apply Kd.R_alloc | apply Kd.R_drewN | apply Kd.R_drew)); exact HO167.out)) k_ hk⟩)); (case aO => exact (by (with_reducible repeat (first | apply Kd.R_alloc | apply Kd.R_drewN | apply Kd.R_drew)); exact HO175.out)); (case aS => exact (below_size (by repeat (first | (with_reducible first | exact HB.out | apply below_alloc | apply pw_below_drewN | apply below_drew1) | exact HB.out)))); (case aL => have := LMc8.out; omega); intro v177 w19 ho hb hg hat; rw [← Ny176.out] at ho; have n0_ := Aside0.mk (Kd.R_after (ok := (fun k_ => some k_ ≠ (.slice Ao20 t164.length co20 : Value).ownBlock)) (by (with_reducible repeat (first | apply Kd.R_alloc | apply Kd.R_drewN | apply Kd.R_drew)); exact HO161.out) hg hat); have n1_ := Aside0.mk (Kd.R_over' (by (with_reducible repeat (first | apply Kd.R_alloc | apply Kd.R_drewN | apply Kd.R_drew)); exact HO163.out) (Kd.R_typed (by (with_reducible repeat (first | apply Kd.R_alloc | apply Kd.R_drewN | apply Kd.R_drew)); exact HO175.out)) (by decide) hg); have n2_ := Aside0.mk (Kd.R_after (ok := (fun k_ => some k_ ≠ (.slice Ao18 t158.length co18 : Value).ownBlock)) (by (with_reducible repeat (first | apply Kd.R_alloc | apply Kd.R_drewN | apply Kd.R_drew)); exact HO167.out) hg hat); have n3_ := Aside0.mk (Kd.R_over' (by (with_reducible repeat (first | apply Kd.R_alloc | apply Kd.R_drewN | apply Kd.R_drew)); exact HO169.out) (Kd.R_typed (by (with_reducible repeat (first | apply Kd.R_alloc | apply Kd.R_drewN | apply Kd.R_drew)); exact HO175.out)) (by decide) hg); have n4_ := Aside0.mk (hb); have n5_ := Aside0.mk (ho); clear HO161; clear HO163; clear HO167; clear HO169; clear HB; clear HO175; have HO161 := n0_; have HO163 := n1_; have HO167 := n2_; have HO169 := n3_; have HB := n4_; have HO178 := n5_; clear n0_ n1_ n2_ n3_ n4_ n5_; clear ho hb hg hat; obtain ⟨Ao21, co21, eo21⟩ := Kd.R_slice HO178.out; subst eo21) | ((with_reducible refine gate_callee (f := 13) rfl ?_); refine goesL_ (some 33) rfl rfl Try.func13 (by kernel_rfl) rfl #[.slice Ao21 y176.length co21] rfl (by (try simp only [List.map_toArray, List.map_cons, List.map_nil]); first | done | rfl | (simp only [List.length_drop, List.length_take]; rfl)) ?_; (with_reducible refine (audit_Totals.calls _ _ y176 t179 _ ?side1 ?side2 A9.out).mono ?_); (case side1 => repeat (first | exact (Kd.R_reads' HO178.out).2.2 | (with_reducible refine Kd.C_alloc ?_ _) | (with_reducible refine Kd.C_drewN ?_ _) | (with_reducible refine Kd.C_drew ?_))); (case side2 => exact (Kd.R_reads' HO178.out).2.1); rintro e w22 ⟨v180, rfl, ho0, hb⟩; refine ⟨_, rfl, ?_⟩; have n0_ := Aside0.mk (Kd.R_below (by (with_reducible repeat (first | apply Kd.R_alloc | apply Kd.R_drewN | apply Kd.R_drew)); exact HO161.out) hb); have n1_ := Aside0.mk (Kd.R_below (by (with_reducible repeat (first | apply Kd.R_alloc | apply Kd.R_drewN | apply Kd.R_drew)); exact HO163.out) hb); have n2_ := Aside0.mk (Kd.R_below (by (with_reducible repeat (first | apply Kd.R_alloc | apply Kd.R_drewN | apply Kd.R_drew)); exact HO167.out) hb); have n3_ := Aside0.mk (Kd.R_below (by (with_reducible repeat (first | apply Kd.R_alloc | apply Kd.R_drewN | apply Kd.R_drew)); exact HO169.out) hb); have n4_ := Aside0.mk (Kd.R_below (by (with_reducible repeat (first | apply Kd.R_alloc | apply Kd.R_drewN | apply Kd.R_drew)); exact HO178.out) hb); have n5_ := Aside0.mk (Kd.R_lower ho0 (below_size (by repeat (first | (with_reducible first | exact HB.out | apply below_alloc | apply pw_below_drewN | apply below_drew1) | exact HB.out)))); have n6_ := Aside0.mk (below_step (by repeat (first | (with_reducible first | exact HB.out | apply below_alloc | apply pw_below_drewN | apply below_drew1) | exact HB.out)) hb); clear HO161; clear HO163; clear HO167; clear HO169; clear HO178; clear HB; have HO161 := n0_; have HO163 := n1_; have HO167 := n2_; have HO169 := n3_; have HO178 := n4_; have HO181 := n5_; have HB := n6_; clear n0_ n1_ n2_ n3_ n4_ n5_ n6_; (try clear hb); (try clear hb2); (try clear hk); (try clear hi); (try clear ho0)) | ((with_reducible refine gate_callee (f := 13) rfl ?_); refine goesL_ (some 35) rfl rfl Try.func13 (by kernel_rfl) rfl #[.slice Ao18 t158.length co18] rfl (by (try simp only [List.map_toArray, List.map_cons, List.map_nil]); first | done | rfl | (simp only [List.length_drop, List.length_take]; rfl)) ?_; (with_reducible refine (audit_Totals.calls _ _ t158 t182 _ ?side1 ?side2 A10.out).mono ?_); (case side1 => repeat (first | exact (Kd.R_reads' HO161.out).2.2 | (with_reducible refine Kd.C_alloc ?_ _) | (with_reducible refine Kd.C_drewN ?_ _) | (with_reducible refine Kd.C_drew ?_))); (case side2 => exact (Kd.R_reads' HO161.out).2.1); rintro e w23 ⟨v183, rfl, ho0, hb⟩; refine ⟨_, rfl, ?_⟩; have n0_ := Aside0.mk (Kd.R_below (by (with_reducible repeat (first | apply Kd.R_alloc | apply Kd.R_drewN | apply Kd.R_drew)); exact HO161.out) hb); have n1_ := Aside0.mk (Kd.R_below (by (with_reducible repeat (first | apply Kd.R_alloc | apply Kd.R_drewN | apply Kd.R_drew)); exact HO163.out) hb); have n2_ := Aside0.mk (Kd.R_below (by (with_reducible repeat (first | apply Kd.R_alloc | apply Kd.R_drewN | apply Kd.R_drew)); exact HO167.out) hb); have n3_ := Aside0.mk (Kd.R_below (by (with_reducible repeat (first | apply Kd.R_alloc | apply Kd.R_drewN | apply Kd.R_drew)); exact HO169.out) hb); have n4_ := Aside0.mk (Kd.R_below (by (with_reducible repeat (first | apply Kd.R_alloc | apply Kd.R_drewN | apply Kd.R_drew)); exact HO178.out) hb); have n5_ := Aside0.mk (Kd.R_elder' (by (with_reducible repeat (first | apply Kd.R_alloc | apply Kd.R_drewN | apply Kd.R_drew)); exact HO181.out) (Kd.R_base ho0) hb); have n6_ := Aside0.mk (Kd.R_lower (Kd.R_new' ho0 (Kd.R_lt (by (with_reducible repeat (first | apply Kd.R_alloc | apply Kd.R_drewN | apply Kd.R_drew)); exact HO181.out))) (below_size (by repeat (first | (with_reducible first | exact HB.out | apply below_alloc | apply pw_below_drewN | apply below_drew1) | exact HB.out)))); have n7_ := Aside0.mk (below_step (by repeat (first | (with_reducible first | exact HB.out | apply below_alloc | apply pw_below_drewN | apply below_drew1) | exact HB.out)) hb); clear HO161; clear HO163; clear HO167; clear HO169; clear HO178; clear HO181; clear HB; have HO161 := n0_; have HO163 := n1_; have HO167 := n2_; have HO169 := n3_; have HO178 := n4_; have HO181 := n5_; have HO184 := n6_; have HB := n7_; clear n0_ n1_ n2_ n3_ n4_ n5_ n6_ n7_; (try clear hb); (try clear hb2); (try clear hk); (try clear hi); (try clear ho0)) | ((with_reducible refine gate_callee (f := 13) rfl ?_); refine goesL_ (some 37) rfl rfl Try.func13 (by kernel_rfl) rfl #[.slice Ao20 t164.length co20] rfl (by (try simp only [List.map_toArray, List.map_cons, List.map_nil]); first | done | rfl | (simp only [List.length_drop, List.length_take]; rfl)) ?_; (with_reducible refine (audit_Totals.calls _ _ t164 t185 _ ?side1 ?side2 A11.out).mono ?_); (case side1 => repeat (first | exact (Kd.R_reads' HO167.out).2.2 | (with_reducible refine Kd.C_alloc ?_ _) | (with_reducible refine Kd.C_drewN ?_ _) | (with_reducible refine Kd.C_drew ?_))); (case side2 => exact (Kd.R_reads' HO167.out).2.1); rintro e w24 ⟨v186, rfl, ho0, hb⟩; refine ⟨_, rfl, ?_⟩; have n0_ := Aside0.mk (Kd.R_below (by (with_reducible repeat (first | apply Kd.R_alloc | apply Kd.R_drewN | apply Kd.R_drew)); exact HO161.out) hb); have n1_ := Aside0.mk (Kd.R_below (by (with_reducible repeat (first | apply Kd.R_alloc | apply Kd.R_drewN | apply Kd.R_drew)); exact HO163.out) hb); have n2_ := Aside0.mk (Kd.R_below (by (with_reducible repeat (first | apply Kd.R_alloc | apply Kd.R_drewN | apply Kd.R_drew)); exact HO167.out) hb); have n3_ := Aside0.mk (Kd.R_below (by (with_reducible repeat (first | apply Kd.R_alloc | apply Kd.R_drewN | apply Kd.R_drew)); exact HO169.out) hb); have n4_ := Aside0.mk (Kd.R_below (by (with_reducible repeat (first | apply Kd.R_alloc | apply Kd.R_drewN | apply Kd.R_drew)); exact HO178.out) hb); have n5_ := Aside0.mk (Kd.R_elder' (by (with_reducible repeat (first | apply Kd.R_alloc | apply Kd.R_drewN | apply Kd.R_drew)); exact HO181.out) (Kd.R_base ho0) hb); have n6_ := Aside0.mk (Kd.R_elder' (by (with_reducible repeat (first | apply Kd.R_alloc | apply Kd.R_drewN | apply Kd.R_drew)); exact HO184.out) (Kd.R_base ho0) hb); have n7_ := Aside0.mk (Kd.R_lower (Kd.R_new' (Kd.R_new' ho0 (Kd.R_lt (by (with_reducible repeat (first | apply Kd.R_alloc | apply Kd.R_drewN | apply Kd.R_drew)); exact HO181.out))) (Kd.R_lt (by (with_reducible repeat (first | apply Kd.R_alloc | apply Kd.R_drewN | apply Kd.R_drew)); exact HO184.out))) (below_size (by repeat (first | (with_reducible first | exact HB.out | apply below_alloc | apply pw_below_drewN | apply below_drew1) | exact HB.out)))); have n8_ := Aside0.mk (below_step (by repeat (first | (with_reducible first | exact HB.out | apply below_alloc | apply pw_below_drewN | apply below_drew1) | exact HB.out)) hb); clear HO161; clear HO163; clear HO167; clear HO169; clear HO178; clear HO181; clear HO184; clear HB; have HO161 := n0_; have HO163 := n1_; have HO167 := n2_; have HO169 := n3_; have HO178 := n4_; have HO181 := n5_; have HO184 := n6_; have HO187 := n7_; have HB := n8_; clear n0_ n1_ n2_ n3_ n4_ n5_ n6_ n7_ n8_; (try clear hb); (try clear hb2); (try clear hk); (try clear hi); (try clear ho0)))
        go_loopg [12] k (fun kq v12 w' => ∃ (x12_1 : Int), v12 = .int .i64 x12_1 ∧ Aside0 (coraclelaw24_AuditParts.l0 kq t158 t179 t182 t185 x12_1 = some r) ∧ Aside0 (kq ≤ k) ∧ Aside0 (Kd.R k44 44 w' w.heap.size (fun _ => True) (.slice Ao18 t158.length co18) t158) ∧ Aside0 (Kd.R k41 41 w' w.heap.size (fun k_ => some k_ ≠ (v183 : Value).ownBlock ∧ some k_ ≠ (v186 : Value).ownBlock) v180 t179) ∧ Aside0 (Kd.R k41 41 w' w.heap.size (fun k_ => some k_ ≠ (v180 : Value).ownBlock ∧ some k_ ≠ (v186 : Value).ownBlock) v183 t182) ∧ Aside0 (Kd.R k41 41 w' w.heap.size (fun k_ => some k_ ≠ (v180 : Value).ownBlock ∧ some k_ ≠ (v183 : Value).ownBlock) v186 t185) ∧ Aside0 (Below w.heap.size w w'))
        case atStart => exact ⟨(0), (by first | rfl | (simp; done) | (simp [*]; done)), H', ⟨Nat.le_refl _⟩, ⟨by (with_reducible repeat (first | apply Kd.R_alloc | apply Kd.R_drewN | apply Kd.R_drew)); exact Kd.R_mono HO161.out (fun _ hk => trivial)⟩, ⟨by (with_reducible repeat (first | apply Kd.R_alloc | apply Kd.R_drewN | apply Kd.R_drew)); exact Kd.R_mono HO181.out (fun _ hk => ⟨hk.1.2, hk.2⟩)⟩, ⟨by (with_reducible repeat (first | apply Kd.R_alloc | apply Kd.R_drewN | apply Kd.R_drew)); exact Kd.R_mono HO184.out (fun _ hk => ⟨hk.1.2, hk.2⟩)⟩, ⟨by (with_reducible repeat (first | apply Kd.R_alloc | apply Kd.R_drewN | apply Kd.R_drew)); exact Kd.R_mono HO187.out (fun _ hk => ⟨hk.1.2, hk.2⟩)⟩, ⟨by repeat (first | (with_reducible first | exact HB.out | apply below_alloc | apply pw_below_drewN | apply below_drew1) | exact HB.out)⟩⟩
        case round =>
          clear H'
          try clear c1
          try clear p2
          try clear c4
          try clear c6
          try clear c7
          try clear c8
          try clear c13
          obtain ⟨x12_1, rfl, HA, HK1, HO_5, HO_9, HO_10, HO_11, HB⟩ := hrel
          cases gk with
          | zero => exact absurd HA.out (by simp [coraclelaw24_AuditParts.l0])
          | succ k1 =>
            have H := HA.out
            clear HA
            simp only [coraclelaw24_AuditParts.l0] at H
            by_cases c25 : x12_1 < (t179.length : Int)
            · rw [if_pos c25] at H
              have c25b0 : decide (x12_1 < (t179.length : Int)) = true := decide_eq_true c25
              clear c25
              by_cases c26 : 0 ≤ x12_1
              · rw [if_pos c26] at H
                have c26b0 : decide (0 ≤ x12_1) = true := decide_eq_true c26
                clear c26
                have H' := Aside0.mk H
                clear H
                obtain ⟨Ao27, co27, eo27⟩ := Kd.R_slice HO_9.out
                subst eo27
                have p191 : 0 ≤ (x12_1 : Int) := of_decide_eq_true (by first | (with_reducible assumption) | assumption)
                have q191 : x12_1 < (t179.length : Int) := of_decide_eq_true (by first | (with_reducible assumption) | assumption)
                obtain ⟨ad191, e191, hx191_0, hx191_1, hx191_2, hx191_3⟩ := at_T41 (Kd.R_reads' HO_9.out).2.2 x12_1 p191 q191
                cases e191
                replace p191 := eq_true p191
                replace q191 := eq_true q191
                go_wp2_with (first | ((with_reducible refine gate_dst (N := 13) rfl ?_); (try (refine gate_guard (by rfl) ?_; dsimp only)); refine box_event ?hg (N := 13) ?hd (cs := #[.int .i64 0, .int .i64 0, .int .i64 0, .int .i64 0]) (t := 41) ?hr ?_; (case hd => rfl); (case hg => rfl); (case hr => first | (go_simp; done) | (go_simp; rfl)); intro gb192 hg w28 hbox hb; have n0_ := Aside0.mk (Kd.R_below (by (with_reducible repeat (first | apply Kd.R_alloc | apply Kd.R_drewN | apply Kd.R_drew)); exact HO_5.out) hb); have n1_ := Aside0.mk (Kd.R_below (Kd.R_elderB (by (with_reducible repeat (first | apply Kd.R_alloc | apply Kd.R_drewN | apply Kd.R_drew)); exact HO_9.out) gb192 (Nat.le_of_eq hg.symm)) hb); have n2_ := Aside0.mk (Kd.R_below (Kd.R_elderB (by (with_reducible repeat (first | apply Kd.R_alloc | apply Kd.R_drewN | apply Kd.R_drew)); exact HO_10.out) gb192 (Nat.le_of_eq hg.symm)) hb); have n3_ := Aside0.mk (Kd.R_below (Kd.R_elderB (by (with_reducible repeat (first | apply Kd.R_alloc | apply Kd.R_drewN | apply Kd.R_drew)); exact HO_11.out) gb192 (Nat.le_of_eq hg.symm)) hb); have n4_ := Aside0.mk (below_step (by repeat (first | (with_reducible first | exact HB.out | apply below_alloc | apply pw_below_drewN | apply below_drew1) | exact HB.out)) hb); have n5_ := Aside0.mk (hbox); have n6_ := Aside0.mk ((by rw [hg]; exact (below_size (by repeat (first | (with_reducible first | exact HB.out | apply below_alloc | apply pw_below_drewN | apply below_drew1) | exact HB.out))) : w.heap.size ≤ gb192)); have n7_ := Aside0.mk ((by rw [hg]; exact (below_size (by repeat (first | (with_reducible first | exact HB.out | apply below_alloc | apply pw_below_drewN | apply below_drew1) | exact HB.out))) : w.heap.size ≤ gb192)); clear HO_5; clear HO_9; clear HO_10; clear HO_11; clear HB; have HO_5 := n0_; have HO_9 := n1_; have HO_10 := n2_; have HO_11 := n3_; have HB := n4_; have BK192 := n5_; have GW192 := n6_; have GE192 := n7_; clear n0_ n1_ n2_ n3_ n4_ n5_ n6_ n7_; clear hb hbox hg; have hcz29_0 : w28.cell? ⟨gb192, 0, none⟩ = some (.int .i64 0) := (blk_cell BK192.out 0).trans rfl; have hcz29_1 : w28.cell? ⟨gb192, 1, none⟩ = some (.int .i64 0) := (blk_cell BK192.out 1).trans rfl; have hcz29_2 : w28.cell? ⟨gb192, 2, none⟩ = some (.int .i64 0) := (blk_cell BK192.out 2).trans rfl; have hcz29_3 : w28.cell? ⟨gb192, 3, none⟩ = some (.int .i64 0) := (blk_cell BK192.out 3).trans rfl; have hfz29_0 := blk_frozen BK192.out 0; have hfz29_1 := blk_frozen BK192.out 1; have hfz29_2 := blk_frozen BK192.out 2; have hfz29_3 := blk_frozen BK192.out 3))
                go_loopg [14] k1 (fun kq v14 w' => ∃ (x14_2 : Int) (x193001_2 : Int) (x193002_2 : Int) (x193003_2 : Int), v14 = .int .i64 x14_2 ∧ Aside0 (coraclelaw24_AuditParts.l1 kq t158 t179 t182 t185 x12_1 x14_2 ((rd_T41 t179 x12_1).f0) x193001_2 x193002_2 x193003_2 = some r) ∧ Aside0 (kq ≤ k1) ∧ Aside0 (Kd.R k44 44 w' w.heap.size (fun _ => True) (.slice Ao18 t158.length co18) t158) ∧ Aside0 (Kd.R k41 41 w' w.heap.size (fun k_ => some k_ ≠ (v183 : Value).ownBlock ∧ some k_ ≠ (v186 : Value).ownBlock ∧ k_ ≠ gb192) (.slice (some ad191) t179.length co27) t179) ∧ Aside0 (Kd.R k41 41 w' w.heap.size (fun k_ => some k_ ≠ ((.slice (some ad191) t179.length co27) : Value).ownBlock ∧ some k_ ≠ (v186 : Value).ownBlock ∧ k_ ≠ gb192) v183 t182) ∧ Aside0 (Kd.R k41 41 w' w.heap.size (fun k_ => some k_ ≠ ((.slice (some ad191) t179.length co27) : Value).ownBlock ∧ some k_ ≠ (v183 : Value).ownBlock ∧ k_ ≠ gb192) v186 t185) ∧ Aside0 (w'.heap[gb192]? = some (.cells #[.int .i64 ((rd_T41 t179 x12_1).f0), .int .i64 x193001_2, .int .i64 x193002_2, .int .i64 x193003_2] 41 (0, 0))) ∧ Aside0 (Below w.heap.size w w'))
                case atStart => exact ⟨(0), ((rd_T41 t179 x12_1).f1), ((rd_T41 t179 x12_1).f2), ((rd_T41 t179 x12_1).f3), (by first | rfl | (simp; done) | (simp [*]; done)), H', ⟨Nat.le_refl _⟩, ⟨by (with_reducible repeat (first | apply Kd.R_alloc | apply Kd.R_drewN | apply Kd.R_drew)); exact Kd.R_mono (Kd.R_far (p := ⟨gb192, 3, none⟩) (Kd.R_far (p := ⟨gb192, 2, none⟩) (Kd.R_far (p := ⟨gb192, 1, none⟩) (Kd.R_far (p := ⟨gb192, 0, none⟩) (Kd.R_types HO_5.out BK192.out (by decide)) (fun _ hk => hk.2) (.int .i64 ((rd_T41 t179 x12_1).f0))) (fun _ hk => hk.2) (.int .i64 ((rd_T41 t179 x12_1).f1))) (fun _ hk => hk.2) (.int .i64 ((rd_T41 t179 x12_1).f2))) (fun _ hk => hk.2) (.int .i64 ((rd_T41 t179 x12_1).f3))) (fun _ hk => trivial)⟩, ⟨by (with_reducible repeat (first | apply Kd.R_alloc | apply Kd.R_drewN | apply Kd.R_drew)); exact Kd.R_mono (Kd.R_far (p := ⟨gb192, 3, none⟩) (Kd.R_far (p := ⟨gb192, 2, none⟩) (Kd.R_far (p := ⟨gb192, 1, none⟩) (Kd.R_far (p := ⟨gb192, 0, none⟩) (Kd.R_mono HO_9.out (fun k_ hk => (⟨hk, hk.2⟩ : _ ∧ k_ ≠ gb192))) (fun _ hk => hk.2) (.int .i64 ((rd_T41 t179 x12_1).f0))) (fun _ hk => hk.2) (.int .i64 ((rd_T41 t179 x12_1).f1))) (fun _ hk => hk.2) (.int .i64 ((rd_T41 t179 x12_1).f2))) (fun _ hk => hk.2) (.int .i64 ((rd_T41 t179 x12_1).f3))) (fun _ hk => ⟨hk.1.1.1, ⟨hk.1.1.2, hk.1.2⟩⟩)⟩, ⟨by (with_reducible repeat (first | apply Kd.R_alloc | apply Kd.R_drewN | apply Kd.R_drew)); exact Kd.R_mono (Kd.R_far (p := ⟨gb192, 3, none⟩) (Kd.R_far (p := ⟨gb192, 2, none⟩) (Kd.R_far (p := ⟨gb192, 1, none⟩) (Kd.R_far (p := ⟨gb192, 0, none⟩) (Kd.R_mono HO_10.out (fun k_ hk => (⟨hk, hk.2⟩ : _ ∧ k_ ≠ gb192))) (fun _ hk => hk.2) (.int .i64 ((rd_T41 t179 x12_1).f0))) (fun _ hk => hk.2) (.int .i64 ((rd_T41 t179 x12_1).f1))) (fun _ hk => hk.2) (.int .i64 ((rd_T41 t179 x12_1).f2))) (fun _ hk => hk.2) (.int .i64 ((rd_T41 t179 x12_1).f3))) (fun _ hk => ⟨hk.1.1.1, ⟨hk.1.1.2, hk.1.2⟩⟩)⟩, ⟨by (with_reducible repeat (first | apply Kd.R_alloc | apply Kd.R_drewN | apply Kd.R_drew)); exact Kd.R_mono (Kd.R_far (p := ⟨gb192, 3, none⟩) (Kd.R_far (p := ⟨gb192, 2, none⟩) (Kd.R_far (p := ⟨gb192, 1, none⟩) (Kd.R_far (p := ⟨gb192, 0, none⟩) (Kd.R_mono HO_11.out (fun k_ hk => (⟨hk, hk.2⟩ : _ ∧ k_ ≠ gb192))) (fun _ hk => hk.2) (.int .i64 ((rd_T41 t179 x12_1).f0))) (fun _ hk => hk.2) (.int .i64 ((rd_T41 t179 x12_1).f1))) (fun _ hk => hk.2) (.int .i64 ((rd_T41 t179 x12_1).f2))) (fun _ hk => hk.2) (.int .i64 ((rd_T41 t179 x12_1).f3))) (fun _ hk => ⟨hk.1.1.1, ⟨hk.1.1.2, hk.1.2⟩⟩)⟩, ⟨by (with_reducible repeat (first | refine blk_drewN ?_ _ | refine blk_drew ?_ | refine blk_alloc ?_ _)); refine blk_put (cs := #[.int .i64 ((rd_T41 t179 x12_1).f0), .int .i64 ((rd_T41 t179 x12_1).f1), .int .i64 ((rd_T41 t179 x12_1).f2), .int .i64 0]) ?_ 3 _ rfl; (with_reducible repeat (first | refine blk_drewN ?_ _ | refine blk_drew ?_ | refine blk_alloc ?_ _)); refine blk_put (cs := #[.int .i64 ((rd_T41 t179 x12_1).f0), .int .i64 ((rd_T41 t179 x12_1).f1), .int .i64 0, .int .i64 0]) ?_ 2 _ rfl; (with_reducible repeat (first | refine blk_drewN ?_ _ | refine blk_drew ?_ | refine blk_alloc ?_ _)); refine blk_put (cs := #[.int .i64 ((rd_T41 t179 x12_1).f0), .int .i64 0, .int .i64 0, .int .i64 0]) ?_ 1 _ rfl; (with_reducible repeat (first | refine blk_drewN ?_ _ | refine blk_drew ?_ | refine blk_alloc ?_ _)); refine blk_put (cs := #[.int .i64 0, .int .i64 0, .int .i64 0, .int .i64 0]) ?_ 0 _ rfl; (with_reducible repeat (first | refine blk_drewN ?_ _ | refine blk_drew ?_ | refine blk_alloc ?_ _)); exact BK192.out⟩, ⟨by repeat (first | (with_reducible first | exact HB.out | apply below_alloc | apply pw_below_drewN | apply below_drew1 | refine below_set ?_ GE192.out) | exact HB.out)⟩⟩
                case round =>
                  clear H'
                  try clear c1
                  try clear p1
                  try clear q1
                  try clear hx1
                  try clear c2
                  try clear p2
                  try clear c4
                  try clear c6
                  try clear c7
                  try clear c8
                  try clear c13
                  try clear p19
                  try clear q19
                  try clear hx19
                  try clear c25
                  try clear c25b0
                  try clear c26
                  try clear c26b0
                  try clear hcz29_0
                  try clear hcz29_1
                  try clear hcz29_2
                  try clear hcz29_3
                  try clear hfz29_0
                  try clear hfz29_1
                  try clear hfz29_2
                  try clear hfz29_3
                  try clear hx191_0
                  try clear hx191_1
                  try clear hx191_2
                  try clear hx191_3
                  try clear p191
                  try clear p2
                  try clear q191
                  obtain ⟨x14_2, x193001_2, x193002_2, x193003_2, rfl, HA, HK2, HO_5, HO_9, HO_10, HO_11, BK192, HB⟩ := hrel
                  cases gk with
                  | zero => exact absurd HA.out (by simp [coraclelaw24_AuditParts.l1])
                  | succ k2 =>
                    have H := HA.out
                    clear HA
                    simp only [coraclelaw24_AuditParts.l1] at H
                    by_cases c30 : x14_2 < (t182.length : Int)
                    · rw [if_pos c30] at H
                      have c30b0 : decide (x14_2 < (t182.length : Int)) = true := decide_eq_true c30
                      clear c30
                      by_cases c31 : 0 ≤ x14_2
                      · rw [if_pos c31] at H
                        have c31b0 : decide (0 ≤ x14_2) = true := decide_eq_true c31
                        clear c31
                        by_cases c32 : ((rd_T41 t182 x14_2).f0) = ((rd_T41 t179 x12_1).f0)
                        · rw [if_pos c32] at H
                          have c32b0 : (((rd_T41 t182 x14_2).f0) == ((rd_T41 t179 x12_1).f0)) = true := beq_iff_eq.mpr c32
                          have c32b1 : (((rd_T41 t182 x14_2).f0) != ((rd_T41 t179 x12_1).f0)) = false := bne_eq_false_iff_eq.mpr c32
                          clear c32
                          have H' := Aside0.mk H
                          clear H
                          obtain ⟨Ao33, co33, eo33⟩ := Kd.R_slice HO_10.out
                          subst eo33
                          try go_wp2
                          have n0_ := Aside0.mk (Kd.R_drew HO_5.out)
                          have n1_ := Aside0.mk (Kd.R_drew HO_9.out)
                          have n2_ := Aside0.mk (Kd.R_drew HO_10.out)
                          have n3_ := Aside0.mk (Kd.R_drew HO_11.out)
                          have n4_ := Aside0.mk (blk_drew BK192.out)
                          have n5_ := Aside0.mk (below_drew1 HB.out)
                          clear HO_5
                          clear HO_9
                          clear HO_10
                          clear HO_11
                          clear BK192
                          clear HB
                          have HO_5 := n0_
                          have HO_9 := n1_
                          have HO_10 := n2_
                          have HO_11 := n3_
                          have BK192 := n4_
                          have HB := n5_
                          clear n0_ n1_ n2_ n3_ n4_ n5_
                          have p193 : 0 ≤ (x14_2 : Int) := of_decide_eq_true (by first | (with_reducible assumption) | assumption)
                          have q193 : x14_2 < (t182.length : Int) := of_decide_eq_true (by first | (with_reducible assumption) | assumption)
                          obtain ⟨ad193, e193, hx193_0, hx193_1, hx193_2, hx193_3⟩ := at_T41 (Kd.R_reads' HO_10.out).2.2 x14_2 p193 q193
                          cases e193
                          replace p193 := eq_true p193
                          replace q193 := eq_true q193
                          refine start_ (n := 8) (S := fun w' => w'.cell? ⟨gb192, 0, none⟩ = some (.int .i64 ((rd_T41 t179 x12_1).f0)) ∧ w'.cell? ⟨gb192, 1, none⟩ = some (.int .i64 x193001_2) ∧ w'.cell? ⟨gb192, 2, none⟩ = some (.int .i64 x193002_2) ∧ w'.cell? ⟨gb192, 3, none⟩ = some (.int .i64 x193003_2) ∧ w'.cell? (ad193.add ((x14_2).toNat * 4)) = some (.int .i64 ((rd_T41 t182 x14_2).f0)) ∧ w'.cell? ⟨(ad193.add ((x14_2).toNat * 4)).block, (ad193.add ((x14_2).toNat * 4)).off + 1, none⟩ = some (.int .i64 ((rd_T41 t182 x14_2).f1)) ∧ w'.cell? ⟨(ad193.add ((x14_2).toNat * 4)).block, (ad193.add ((x14_2).toNat * 4)).off + 2, none⟩ = some (.int .i64 ((rd_T41 t182 x14_2).f2)) ∧ w'.cell? ⟨(ad193.add ((x14_2).toNat * 4)).block, (ad193.add ((x14_2).toNat * 4)).off + 3, none⟩ = some (.int .i64 ((rd_T41 t182 x14_2).f3))) (ds := []) #[false, false, false, false, false, false, false, false] (by kernel_rfl) rfl rfl ⟨(blk_cell BK192.out 0).trans rfl, (blk_cell BK192.out 1).trans rfl, (blk_cell BK192.out 2).trans rfl, (blk_cell BK192.out 3).trans rfl, hx193_0, hx193_1, hx193_2, hx193_3⟩ (fun hHeld => ?_); refine with_tabW coraclelaw24_AuditParts.tab14 coraclelaw24_AuditParts.bits14 (fun HT_ HW_ => ?_)
                          generalize wr.drew = w34 at HO_5 HO_9 HO_10 HO_11 BK192 HB hx193_0 hx193_1 hx193_2 hx193_3 hHeld ⊢
                          refine pure_ (i := 0) (N := some 54) (v := ?_) (a' := ?_) #[true, false, false, false, false, false, false, false] rfl rfl (any_of HT_.out (by kernel_rfl)) (fun _ _ _ h => h) (Or.inl ⟨by rfl, ?_⟩) ?_ ?_
                          rotate_left
                          · intro w'
                            go_simp
                            with_reducible rfl
                          rotate_left
                          · simp only [Act.put, List.setIfInBounds_toArray, List.set_cons_zero, List.set_cons_succ, i64_w, i32_w]
                            rfl
                          refine pure_ (i := 1) (N := some 55) (v := ?_) (a' := ?_) #[true, true, false, false, false, false, false, false] rfl rfl (any_of HT_.out (by kernel_rfl)) (fun _ _ _ h => h) (Or.inl ⟨by rfl, ?_⟩) ?_ ?_
                          rotate_left
                          · intro w'
                            go_simp
                            with_reducible rfl
                          rotate_left
                          · simp only [Act.put, List.setIfInBounds_toArray, List.set_cons_zero, List.set_cons_succ, i64_w, i32_w]
                            rfl
                          refine pure_ (i := 2) (N := some 56) (v := ?_) (a' := ?_) #[true, true, true, false, false, false, false, false] rfl rfl (any_of HT_.out (by kernel_rfl)) (fun _ _ _ h => h) (Or.inl ⟨by rfl, ?_⟩) ?_ ?_
                          rotate_left
                          · intro w'
                            go_simp
                            with_reducible rfl
                          rotate_left
                          · simp only [Act.put, List.setIfInBounds_toArray, List.set_cons_zero, List.set_cons_succ, i64_w, i32_w]
                            rfl
                          refine pure_ (i := 3) (N := some 57) (v := ?_) (a' := ?_) #[true, true, true, true, false, false, false, false] rfl rfl (any_of HT_.out (by kernel_rfl)) (fun _ _ _ h => h) (Or.inl ⟨by rfl, ?_⟩) ?_ ?_
                          rotate_left
                          · intro w'
                            go_simp
                            with_reducible rfl
                          rotate_left
                          · simp only [Act.put, List.setIfInBounds_toArray, List.set_cons_zero, List.set_cons_succ, i64_w, i32_w]
                            rfl
                          refine pure_ (i := 5) (N := some 59) (v := ?_) (a' := ?_) #[true, true, true, true, false, true, false, false] rfl rfl (any_of HT_.out (by kernel_rfl)) (fun _ _ _ h => h) (Or.inl ⟨by rfl, ?_⟩) ?_ ?_
                          rotate_left
                          · intro w'
                            go_simp
                            with_reducible rfl
                          rotate_left
                          · simp only [Act.put, List.setIfInBounds_toArray, List.set_cons_zero, List.set_cons_succ, i64_w, i32_w]
                            rfl
                          refine take_ (i := 4) (N := some 58) (v := ?_) (a' := ?_) #[true, true, true, true, true, true, false, false] rfl rfl (take_ofW HT_.out HW_.out (by kernel_rfl)) (fun _ _ _ h => h) (Or.inl ⟨by rfl, ?_⟩) hHeld ?_ ?_
                          rotate_left
                          · rintro w' ⟨s0, s1, s2, s3, s4, s5, s6, s7⟩
                            go_simp
                            with_reducible rfl
                          rotate_left
                          · simp only [Act.put, List.setIfInBounds_toArray, List.set_cons_zero, List.set_cons_succ, i64_w, i32_w]
                            rfl
                          refine take_ (i := 6) (N := some 60) (v := ?_) (a' := ?_) #[true, true, true, true, true, true, true, false] rfl rfl (take_ofW HT_.out HW_.out (by kernel_rfl)) (fun _ _ _ h => h) (Or.inl ⟨by rfl, ?_⟩) hHeld ?_ ?_
                          rotate_left
                          · rintro w' ⟨s0, s1, s2, s3, s4, s5, s6, s7⟩
                            go_simp
                            with_reducible rfl
                          rotate_left
                          · simp only [Act.put, List.setIfInBounds_toArray, List.set_cons_zero, List.set_cons_succ, i64_w, i32_w]
                            rfl
                          refine pure_ (i := 7) (N := some 61) (v := ?_) (a' := ?_) #[true, true, true, true, true, true, true, true] rfl rfl (any_of HT_.out (by kernel_rfl)) (fun _ _ _ h => h) (Or.inl ⟨by rfl, ?_⟩) ?_ ?_
                          rotate_left
                          · intro w'
                            go_simp
                            with_reducible rfl
                          rotate_left
                          · simp only [Act.put, List.setIfInBounds_toArray, List.set_cons_zero, List.set_cons_succ, i64_w, i32_w]
                            rfl
                          refine done_ (done_of HT_.out (by kernel_rfl)) ?_
                          try go_wp2
                          have n0_ := Aside0.mk (Kd.R_drew HO_5.out)
                          have n1_ := Aside0.mk (Kd.R_drew HO_9.out)
                          have n2_ := Aside0.mk (Kd.R_drew HO_10.out)
                          have n3_ := Aside0.mk (Kd.R_drew HO_11.out)
                          have n4_ := Aside0.mk (blk_drew BK192.out)
                          have n5_ := Aside0.mk (below_drew1 HB.out)
                          clear HO_5
                          clear HO_9
                          clear HO_10
                          clear HO_11
                          clear BK192
                          clear HB
                          have HO_5 := n0_
                          have HO_9 := n1_
                          have HO_10 := n2_
                          have HO_11 := n3_
                          have BK192 := n4_
                          have HB := n5_
                          clear n0_ n1_ n2_ n3_ n4_ n5_
                          have p194 : 0 ≤ (x14_2 : Int) := of_decide_eq_true (by first | (with_reducible assumption) | assumption)
                          have q194 : x14_2 < (t182.length : Int) := of_decide_eq_true (by first | (with_reducible assumption) | assumption)
                          obtain ⟨ad194, e194, hx194_0, hx194_1, hx194_2, hx194_3⟩ := at_T41 (Kd.R_reads' HO_10.out).2.2 x14_2 p194 q194
                          obtain rfl : ad193 = ad194 := (by injection e194)
                          replace p194 := eq_true p194
                          replace q194 := eq_true q194
                          have p195 : 0 ≤ (x14_2 : Int) := of_decide_eq_true (by first | (with_reducible assumption) | assumption)
                          have q195 : x14_2 < (t182.length : Int) := of_decide_eq_true (by first | (with_reducible assumption) | assumption)
                          obtain ⟨ad195, e195, hx195_0, hx195_1, hx195_2, hx195_3⟩ := at_T41 (Kd.R_reads' HO_10.out).2.2 x14_2 p195 q195
                          obtain rfl : ad193 = ad195 := (by injection e195)
                          replace p195 := eq_true p195
                          replace q195 := eq_true q195
                          have p196 : 0 ≤ (x14_2 : Int) := of_decide_eq_true (by first | (with_reducible assumption) | assumption)
                          have q196 : x14_2 < (t182.length : Int) := of_decide_eq_true (by first | (with_reducible assumption) | assumption)
                          obtain ⟨ad196, e196, hx196_0, hx196_1, hx196_2, hx196_3⟩ := at_T41 (Kd.R_reads' HO_10.out).2.2 x14_2 p196 q196
                          obtain rfl : ad193 = ad196 := (by injection e196)
                          replace p196 := eq_true p196
                          replace q196 := eq_true q196
                          refine start_ (n := 30) (S := fun w' => w'.cell? (ad193.add ((x14_2).toNat * 4)) = some (.int .i64 ((rd_T41 t182 x14_2).f0)) ∧ w'.cell? ⟨(ad193.add ((x14_2).toNat * 4)).block, (ad193.add ((x14_2).toNat * 4)).off + 1, none⟩ = some (.int .i64 ((rd_T41 t182 x14_2).f1)) ∧ w'.cell? ⟨(ad193.add ((x14_2).toNat * 4)).block, (ad193.add ((x14_2).toNat * 4)).off + 2, none⟩ = some (.int .i64 ((rd_T41 t182 x14_2).f2)) ∧ w'.cell? ⟨(ad193.add ((x14_2).toNat * 4)).block, (ad193.add ((x14_2).toNat * 4)).off + 3, none⟩ = some (.int .i64 ((rd_T41 t182 x14_2).f3))) (ds := [29]) #[false, false, false, false, false, false, false, false, false, false, false, false, false, false, false, false, false, false, false, false, false, false, false, false, false, false, false, false, false, false] (by kernel_rfl) rfl rfl ⟨hx194_0, hx194_1, hx194_2, hx194_3⟩ (fun hHeld => ?_); refine with_tabW coraclelaw24_AuditParts.tab15 coraclelaw24_AuditParts.bits15 (fun HT_ HW_ => ?_)
                          generalize w34.drew = w35 at HO_5 HO_9 HO_10 HO_11 BK192 HB hx194_0 hx194_1 hx194_2 hx194_3 hx195_0 hx195_1 hx195_2 hx195_3 hx196_0 hx196_1 hx196_2 hx196_3 hHeld ⊢
                          refine pure_ (i := 0) (N := some 62) (v := ?_) (a' := ?_) #[true, false, false, false, false, false, false, false, false, false, false, false, false, false, false, false, false, false, false, false, false, false, false, false, false, false, false, false, false, false] rfl rfl (any_of HT_.out (by kernel_rfl)) (fun _ _ _ h => h) (Or.inl ⟨by rfl, ?_⟩) ?_ ?_
                          rotate_left
                          · intro w'
                            go_simp
                            with_reducible rfl
                          rotate_left
                          · simp only [Act.put, List.setIfInBounds_toArray, List.set_cons_zero, List.set_cons_succ, i64_w, i32_w]
                            rfl
                          refine pure_ (i := 2) (N := some 64) (v := ?_) (a' := ?_) #[true, false, true, false, false, false, false, false, false, false, false, false, false, false, false, false, false, false, false, false, false, false, false, false, false, false, false, false, false, false] rfl rfl (any_of HT_.out (by kernel_rfl)) (fun _ _ _ h => h) (Or.inl ⟨by rfl, ?_⟩) ?_ ?_
                          rotate_left
                          · intro w'
                            go_simp
                            with_reducible rfl
                          rotate_left
                          · simp only [Act.put, List.setIfInBounds_toArray, List.set_cons_zero, List.set_cons_succ, i64_w, i32_w]
                            rfl
                          refine pure_ (i := 3) (N := some 65) (v := ?_) (a' := ?_) #[true, false, true, true, false, false, false, false, false, false, false, false, false, false, false, false, false, false, false, false, false, false, false, false, false, false, false, false, false, false] rfl rfl (any_of HT_.out (by kernel_rfl)) (fun _ _ _ h => h) (Or.inl ⟨by rfl, ?_⟩) ?_ ?_
                          rotate_left
                          · intro w'
                            go_simp
                            with_reducible rfl
                          rotate_left
                          · simp only [Act.put, List.setIfInBounds_toArray, List.set_cons_zero, List.set_cons_succ, i64_w, i32_w]
                            rfl
                          refine pure_ (i := 4) (N := some 66) (v := ?_) (a' := ?_) #[true, false, true, true, true, false, false, false, false, false, false, false, false, false, false, false, false, false, false, false, false, false, false, false, false, false, false, false, false, false] rfl rfl (any_of HT_.out (by kernel_rfl)) (fun _ _ _ h => h) (Or.inl ⟨by rfl, ?_⟩) ?_ ?_
                          rotate_left
                          · intro w'
                            go_simp
                            with_reducible rfl
                          rotate_left
                          · simp only [Act.put, List.setIfInBounds_toArray, List.set_cons_zero, List.set_cons_succ, i64_w, i32_w]
                            rfl
                          refine pure_ (i := 5) (N := some 67) (v := ?_) (a' := ?_) #[true, false, true, true, true, true, false, false, false, false, false, false, false, false, false, false, false, false, false, false, false, false, false, false, false, false, false, false, false, false] rfl rfl (any_of HT_.out (by kernel_rfl)) (fun _ _ _ h => h) (Or.inl ⟨by rfl, ?_⟩) ?_ ?_
                          rotate_left
                          · intro w'
                            go_simp
                            with_reducible rfl
                          rotate_left
                          · simp only [Act.put, List.setIfInBounds_toArray, List.set_cons_zero, List.set_cons_succ, i64_w, i32_w]
                            rfl
                          refine pure_ (i := 8) (N := some 70) (v := ?_) (a' := ?_) #[true, false, true, true, true, true, false, false, true, false, false, false, false, false, false, false, false, false, false, false, false, false, false, false, false, false, false, false, false, false] rfl rfl (any_of HT_.out (by kernel_rfl)) (fun _ _ _ h => h) (Or.inl ⟨by rfl, ?_⟩) ?_ ?_
                          rotate_left
                          · intro w'
                            go_simp
                            with_reducible rfl
                          rotate_left
                          · simp only [Act.put, List.setIfInBounds_toArray, List.set_cons_zero, List.set_cons_succ, i64_w, i32_w]
                            rfl
                          refine pure_ (i := 10) (N := some 72) (v := ?_) (a' := ?_) #[true, false, true, true, true, true, false, false, true, false, true, false, false, false, false, false, false, false, false, false, false, false, false, false, false, false, false, false, false, false] rfl rfl (any_of HT_.out (by kernel_rfl)) (fun _ _ _ h => h) (Or.inl ⟨by rfl, ?_⟩) ?_ ?_
                          rotate_left
                          · intro w'
                            go_simp
                            with_reducible rfl
                          rotate_left
                          · simp only [Act.put, List.setIfInBounds_toArray, List.set_cons_zero, List.set_cons_succ, i64_w, i32_w]
                            rfl
                          refine pure_ (i := 11) (N := some 73) (v := ?_) (a' := ?_) #[true, false, true, true, true, true, false, false, true, false, true, true, false, false, false, false, false, false, false, false, false, false, false, false, false, false, false, false, false, false] rfl rfl (any_of HT_.out (by kernel_rfl)) (fun _ _ _ h => h) (Or.inl ⟨by rfl, ?_⟩) ?_ ?_
                          rotate_left
                          · intro w'
                            go_simp
                            with_reducible rfl
                          rotate_left
                          · simp only [Act.put, List.setIfInBounds_toArray, List.set_cons_zero, List.set_cons_succ, i64_w, i32_w]
                            rfl
                          refine pure_ (i := 12) (N := some 74) (v := ?_) (a' := ?_) #[true, false, true, true, true, true, false, false, true, false, true, true, true, false, false, false, false, false, false, false, false, false, false, false, false, false, false, false, false, false] rfl rfl (any_of HT_.out (by kernel_rfl)) (fun _ _ _ h => h) (Or.inl ⟨by rfl, ?_⟩) ?_ ?_
                          rotate_left
                          · intro w'
                            go_simp
                            with_reducible rfl
                          rotate_left
                          · simp only [Act.put, List.setIfInBounds_toArray, List.set_cons_zero, List.set_cons_succ, i64_w, i32_w]
                            rfl
                          refine pure_ (i := 13) (N := some 75) (v := ?_) (a' := ?_) #[true, false, true, true, true, true, false, false, true, false, true, true, true, true, false, false, false, false, false, false, false, false, false, false, false, false, false, false, false, false] rfl rfl (any_of HT_.out (by kernel_rfl)) (fun _ _ _ h => h) (Or.inl ⟨by rfl, ?_⟩) ?_ ?_
                          rotate_left
                          · intro w'
                            go_simp
                            with_reducible rfl
                          rotate_left
                          · simp only [Act.put, List.setIfInBounds_toArray, List.set_cons_zero, List.set_cons_succ, i64_w, i32_w]
                            rfl
                          refine pure_ (i := 16) (N := some 78) (v := ?_) (a' := ?_) #[true, false, true, true, true, true, false, false, true, false, true, true, true, true, false, false, true, false, false, false, false, false, false, false, false, false, false, false, false, false] rfl rfl (any_of HT_.out (by kernel_rfl)) (fun _ _ _ h => h) (Or.inl ⟨by rfl, ?_⟩) ?_ ?_
                          rotate_left
                          · intro w'
                            go_simp
                            with_reducible rfl
                          rotate_left
                          · simp only [Act.put, List.setIfInBounds_toArray, List.set_cons_zero, List.set_cons_succ, i64_w, i32_w]
                            rfl
                          refine pure_ (i := 18) (N := some 80) (v := ?_) (a' := ?_) #[true, false, true, true, true, true, false, false, true, false, true, true, true, true, false, false, true, false, true, false, false, false, false, false, false, false, false, false, false, false] rfl rfl (any_of HT_.out (by kernel_rfl)) (fun _ _ _ h => h) (Or.inl ⟨by rfl, ?_⟩) ?_ ?_
                          rotate_left
                          · intro w'
                            go_simp
                            with_reducible rfl
                          rotate_left
                          · simp only [Act.put, List.setIfInBounds_toArray, List.set_cons_zero, List.set_cons_succ, i64_w, i32_w]
                            rfl
                          refine pure_ (i := 19) (N := some 81) (v := ?_) (a' := ?_) #[true, false, true, true, true, true, false, false, true, false, true, true, true, true, false, false, true, false, true, true, false, false, false, false, false, false, false, false, false, false] rfl rfl (any_of HT_.out (by kernel_rfl)) (fun _ _ _ h => h) (Or.inl ⟨by rfl, ?_⟩) ?_ ?_
                          rotate_left
                          · intro w'
                            go_simp
                            with_reducible rfl
                          rotate_left
                          · simp only [Act.put, List.setIfInBounds_toArray, List.set_cons_zero, List.set_cons_succ, i64_w, i32_w]
                            rfl
                          refine pure_ (i := 20) (N := some 82) (v := ?_) (a' := ?_) #[true, false, true, true, true, true, false, false, true, false, true, true, true, true, false, false, true, false, true, true, true, false, false, false, false, false, false, false, false, false] rfl rfl (any_of HT_.out (by kernel_rfl)) (fun _ _ _ h => h) (Or.inl ⟨by rfl, ?_⟩) ?_ ?_
                          rotate_left
                          · intro w'
                            go_simp
                            with_reducible rfl
                          rotate_left
                          · simp only [Act.put, List.setIfInBounds_toArray, List.set_cons_zero, List.set_cons_succ, i64_w, i32_w]
                            rfl
                          refine pure_ (i := 21) (N := some 83) (v := ?_) (a' := ?_) #[true, false, true, true, true, true, false, false, true, false, true, true, true, true, false, false, true, false, true, true, true, true, false, false, false, false, false, false, false, false] rfl rfl (any_of HT_.out (by kernel_rfl)) (fun _ _ _ h => h) (Or.inl ⟨by rfl, ?_⟩) ?_ ?_
                          rotate_left
                          · intro w'
                            go_simp
                            with_reducible rfl
                          rotate_left
                          · simp only [Act.put, List.setIfInBounds_toArray, List.set_cons_zero, List.set_cons_succ, i64_w, i32_w]
                            rfl
                          refine take_ (i := 6) (N := some 68) (v := ?_) (a' := ?_) #[true, false, true, true, true, true, true, false, true, false, true, true, true, true, false, false, true, false, true, true, true, true, false, false, false, false, false, false, false, false] rfl rfl (take_ofW HT_.out HW_.out (by kernel_rfl)) (fun _ _ _ h => h) (Or.inl ⟨by rfl, ?_⟩) hHeld ?_ ?_
                          rotate_left
                          · rintro w' ⟨s0, s1, s2, s3⟩
                            go_simp
                            with_reducible rfl
                          rotate_left
                          · simp only [Act.put, List.setIfInBounds_toArray, List.set_cons_zero, List.set_cons_succ, i64_w, i32_w]
                            rfl
                          refine take_ (i := 14) (N := some 76) (v := ?_) (a' := ?_) #[true, false, true, true, true, true, true, false, true, false, true, true, true, true, true, false, true, false, true, true, true, true, false, false, false, false, false, false, false, false] rfl rfl (take_ofW HT_.out HW_.out (by kernel_rfl)) (fun _ _ _ h => h) (Or.inl ⟨by rfl, ?_⟩) hHeld ?_ ?_
                          rotate_left
                          · rintro w' ⟨s0, s1, s2, s3⟩
                            go_simp
                            with_reducible rfl
                          rotate_left
                          · simp only [Act.put, List.setIfInBounds_toArray, List.set_cons_zero, List.set_cons_succ, i64_w, i32_w]
                            rfl
                          refine take_ (i := 22) (N := some 84) (v := ?_) (a' := ?_) #[true, false, true, true, true, true, true, false, true, false, true, true, true, true, true, false, true, false, true, true, true, true, true, false, false, false, false, false, false, false] rfl rfl (take_ofW HT_.out HW_.out (by kernel_rfl)) (fun _ _ _ h => h) (Or.inl ⟨by rfl, ?_⟩) hHeld ?_ ?_
                          rotate_left
                          · rintro w' ⟨s0, s1, s2, s3⟩
                            go_simp
                            with_reducible rfl
                          rotate_left
                          · simp only [Act.put, List.setIfInBounds_toArray, List.set_cons_zero, List.set_cons_succ, i64_w, i32_w]
                            rfl
                          refine join_ (σ := Unit) 6 #[true, true, true, true, true, true, true, true, true, true, true, true, true, true, true, true, true, true, true, true, true, true, true, true, false, false, false, false, false, false] (fun _ => [(63, .int .i64 x193001_2), (71, .int .i64 x193002_2), (79, .int .i64 x193003_2), (69, .int .i64 (wrap64 (x193001_2 - ((rd_T41 t182 x14_2).f1)))), (77, .int .i64 (wrap64 (x193002_2 - ((rd_T41 t182 x14_2).f2)))), (85, .int .i64 (wrap64 (x193003_2 - ((rd_T41 t182 x14_2).f3))))]) (fun _ w' => w' = w35) ?_ ?_
                          rotate_left
                          · intro hCont
                            refine three_ (i := 1) (j := 9) (k := 17) (Ni := some 63) (Nj := some 71) (Nk := some 79) #[true, true, true, true, true, true, true, false, true, false, true, true, true, true, true, false, true, false, true, true, true, true, true, false, false, false, false, false, false, false] #[true, false, true, true, true, true, true, false, true, true, true, true, true, true, true, false, true, false, true, true, true, true, true, false, false, false, false, false, false, false] #[true, false, true, true, true, true, true, false, true, false, true, true, true, true, true, false, true, true, true, true, true, true, true, false, false, false, false, false, false, false] rfl rfl rfl rfl rfl rfl (three_of HT_.out (by kernel_rfl)) (by decide) (by decide) (by decide) (fun K hK => ?_) (fun K hK => ?_) (fun K hK => ?_)
                            · skip
                              have hsn_ : w35.cell? ⟨gb192, 1, none⟩ = some (.int .i64 x193001_2) := (blk_cell BK192.out 1).trans rfl
                              refine value_ (w1 := ?_) (v := ?_) (by rfl) rfl ?_ ?_
                              rotate_left 2
                              · go_simp
                                constructor
                                · rfl
                                · rfl
                              refine hK.out _ _ ⟨hHeld.1, hHeld.2.1, hHeld.2.2.1, hHeld.2.2.2⟩ (fun hHeld => ?_)
                              clear hK K
                              refine norm_ (a' := ?_) ?_ ?_
                              rotate_left
                              · show Act.put _ (some 63) _ = _
                                simp only [Act.put, List.setIfInBounds_toArray, List.set_cons_zero, List.set_cons_succ, i64_w, i32_w]
                                rfl
                              refine pure_ (i := 7) (N := some 69) (v := ?_) (a' := ?_) #[true, true, true, true, true, true, true, true, true, false, true, true, true, true, true, false, true, false, true, true, true, true, true, false, false, false, false, false, false, false] rfl rfl (any_of HT_.out (by kernel_rfl)) (fun _ _ _ h => h) (Or.inl ⟨by rfl, ?_⟩) ?_ ?_
                              rotate_left
                              · intro w'
                                go_simp
                                with_reducible rfl
                              rotate_left
                              · simp only [Act.put, List.setIfInBounds_toArray, List.set_cons_zero, List.set_cons_succ, i64_w, i32_w]
                                rfl
                              refine two_ (i := 9) (j := 17) (Ni := some 71) (Nj := some 79) #[true, true, true, true, true, true, true, true, true, true, true, true, true, true, true, false, true, false, true, true, true, true, true, false, false, false, false, false, false, false] #[true, true, true, true, true, true, true, true, true, false, true, true, true, true, true, false, true, true, true, true, true, true, true, false, false, false, false, false, false, false] rfl rfl rfl rfl (two_of HT_.out (by kernel_rfl)) (by decide) (by decide) (fun K hK => ?_) (fun K hK => ?_)
                              · skip
                                have hsn_ : w35.cell? ⟨gb192, 2, none⟩ = some (.int .i64 x193002_2) := (blk_cell BK192.out 2).trans rfl
                                refine value_ (w1 := ?_) (v := ?_) (by rfl) rfl ?_ ?_
                                rotate_left 2
                                · go_simp
                                  constructor
                                  · rfl
                                  · rfl
                                refine hK.out _ _ ⟨hHeld.1, hHeld.2.1, hHeld.2.2.1, hHeld.2.2.2⟩ (fun hHeld => ?_)
                                clear hK K
                                refine norm_ (a' := ?_) ?_ ?_
                                rotate_left
                                · show Act.put _ (some 71) _ = _
                                  simp only [Act.put, List.setIfInBounds_toArray, List.set_cons_zero, List.set_cons_succ, i64_w, i32_w]
                                  rfl
                                refine pure_ (i := 15) (N := some 77) (v := ?_) (a' := ?_) #[true, true, true, true, true, true, true, true, true, true, true, true, true, true, true, true, true, false, true, true, true, true, true, false, false, false, false, false, false, false] rfl rfl (any_of HT_.out (by kernel_rfl)) (fun _ _ _ h => h) (Or.inl ⟨by rfl, ?_⟩) ?_ ?_
                                rotate_left
                                · intro w'
                                  go_simp
                                  with_reducible rfl
                                rotate_left
                                · simp only [Act.put, List.setIfInBounds_toArray, List.set_cons_zero, List.set_cons_succ, i64_w, i32_w]
                                  rfl
                                refine one_ (i := 17) (N := some 79) #[true, true, true, true, true, true, true, true, true, true, true, true, true, true, true, true, true, true, true, true, true, true, true, false, false, false, false, false, false, false] rfl rfl (one_of HT_.out (by kernel_rfl)) (by decide) (fun K hK => ?_)
                                have hsn_ : w35.cell? ⟨gb192, 3, none⟩ = some (.int .i64 x193003_2) := (blk_cell BK192.out 3).trans rfl
                                refine value_ (w1 := ?_) (v := ?_) (by rfl) rfl ?_ ?_
                                rotate_left 2
                                · go_simp
                                  constructor
                                  · rfl
                                  · rfl
                                refine hK.out _ _ ⟨hHeld.1, hHeld.2.1, hHeld.2.2.1, hHeld.2.2.2⟩ (fun hHeld => ?_)
                                clear hK K
                                refine norm_ (a' := ?_) ?_ ?_
                                rotate_left
                                · show Act.put _ (some 79) _ = _
                                  simp only [Act.put, List.setIfInBounds_toArray, List.set_cons_zero, List.set_cons_succ, i64_w, i32_w]
                                  rfl
                                refine pure_ (i := 23) (N := some 85) (v := ?_) (a' := ?_) #[true, true, true, true, true, true, true, true, true, true, true, true, true, true, true, true, true, true, true, true, true, true, true, true, false, false, false, false, false, false] rfl rfl (any_of HT_.out (by kernel_rfl)) (fun _ _ _ h => h) (Or.inl ⟨by rfl, ?_⟩) ?_ ?_
                                rotate_left
                                · intro w'
                                  go_simp
                                  with_reducible rfl
                                rotate_left
                                · simp only [Act.put, List.setIfInBounds_toArray, List.set_cons_zero, List.set_cons_succ, i64_w, i32_w]
                                  rfl
                                exact norm_ (by simp only [putAll, Act.put, List.setIfInBounds_toArray, List.set_cons_zero, List.set_cons_succ]) (hCont () _ rfl)
                              · skip
                                have hsn_ : w35.cell? ⟨gb192, 3, none⟩ = some (.int .i64 x193003_2) := (blk_cell BK192.out 3).trans rfl
                                refine value_ (w1 := ?_) (v := ?_) (by rfl) rfl ?_ ?_
                                rotate_left 2
                                · go_simp
                                  constructor
                                  · rfl
                                  · rfl
                                refine hK.out _ _ ⟨hHeld.1, hHeld.2.1, hHeld.2.2.1, hHeld.2.2.2⟩ (fun hHeld => ?_)
                                clear hK K
                                refine norm_ (a' := ?_) ?_ ?_
                                rotate_left
                                · show Act.put _ (some 79) _ = _
                                  simp only [Act.put, List.setIfInBounds_toArray, List.set_cons_zero, List.set_cons_succ, i64_w, i32_w]
                                  rfl
                                refine pure_ (i := 23) (N := some 85) (v := ?_) (a' := ?_) #[true, true, true, true, true, true, true, true, true, false, true, true, true, true, true, false, true, true, true, true, true, true, true, true, false, false, false, false, false, false] rfl rfl (any_of HT_.out (by kernel_rfl)) (fun _ _ _ h => h) (Or.inl ⟨by rfl, ?_⟩) ?_ ?_
                                rotate_left
                                · intro w'
                                  go_simp
                                  with_reducible rfl
                                rotate_left
                                · simp only [Act.put, List.setIfInBounds_toArray, List.set_cons_zero, List.set_cons_succ, i64_w, i32_w]
                                  rfl
                                refine one_ (i := 9) (N := some 71) #[true, true, true, true, true, true, true, true, true, true, true, true, true, true, true, false, true, true, true, true, true, true, true, true, false, false, false, false, false, false] rfl rfl (one_of HT_.out (by kernel_rfl)) (by decide) (fun K hK => ?_)
                                have hsn_ : w35.cell? ⟨gb192, 2, none⟩ = some (.int .i64 x193002_2) := (blk_cell BK192.out 2).trans rfl
                                refine value_ (w1 := ?_) (v := ?_) (by rfl) rfl ?_ ?_
                                rotate_left 2
                                · go_simp
                                  constructor
                                  · rfl
                                  · rfl
                                refine hK.out _ _ ⟨hHeld.1, hHeld.2.1, hHeld.2.2.1, hHeld.2.2.2⟩ (fun hHeld => ?_)
                                clear hK K
                                refine norm_ (a' := ?_) ?_ ?_
                                rotate_left
                                · show Act.put _ (some 71) _ = _
                                  simp only [Act.put, List.setIfInBounds_toArray, List.set_cons_zero, List.set_cons_succ, i64_w, i32_w]
                                  rfl
                                refine pure_ (i := 15) (N := some 77) (v := ?_) (a' := ?_) #[true, true, true, true, true, true, true, true, true, true, true, true, true, true, true, true, true, true, true, true, true, true, true, true, false, false, false, false, false, false] rfl rfl (any_of HT_.out (by kernel_rfl)) (fun _ _ _ h => h) (Or.inl ⟨by rfl, ?_⟩) ?_ ?_
                                rotate_left
                                · intro w'
                                  go_simp
                                  with_reducible rfl
                                rotate_left
                                · simp only [Act.put, List.setIfInBounds_toArray, List.set_cons_zero, List.set_cons_succ, i64_w, i32_w]
                                  rfl
                                exact norm_ (by simp only [putAll, Act.put, List.setIfInBounds_toArray, List.set_cons_zero, List.set_cons_succ]) (hCont () _ rfl)
                            · skip
                              have hsn_ : w35.cell? ⟨gb192, 2, none⟩ = some (.int .i64 x193002_2) := (blk_cell BK192.out 2).trans rfl
                              refine value_ (w1 := ?_) (v := ?_) (by rfl) rfl ?_ ?_
                              rotate_left 2
                              · go_simp
                                constructor
                                · rfl
                                · rfl
                              refine hK.out _ _ ⟨hHeld.1, hHeld.2.1, hHeld.2.2.1, hHeld.2.2.2⟩ (fun hHeld => ?_)
                              clear hK K
                              refine norm_ (a' := ?_) ?_ ?_
                              rotate_left
                              · show Act.put _ (some 71) _ = _
                                simp only [Act.put, List.setIfInBounds_toArray, List.set_cons_zero, List.set_cons_succ, i64_w, i32_w]
                                rfl
                              refine pure_ (i := 15) (N := some 77) (v := ?_) (a' := ?_) #[true, false, true, true, true, true, true, false, true, true, true, true, true, true, true, true, true, false, true, true, true, true, true, false, false, false, false, false, false, false] rfl rfl (any_of HT_.out (by kernel_rfl)) (fun _ _ _ h => h) (Or.inl ⟨by rfl, ?_⟩) ?_ ?_
                              rotate_left
                              · intro w'
                                go_simp
                                with_reducible rfl
                              rotate_left
                              · simp only [Act.put, List.setIfInBounds_toArray, List.set_cons_zero, List.set_cons_succ, i64_w, i32_w]
                                rfl
                              refine two_ (i := 1) (j := 17) (Ni := some 63) (Nj := some 79) #[true, true, true, true, true, true, true, false, true, true, true, true, true, true, true, true, true, false, true, true, true, true, true, false, false, false, false, false, false, false] #[true, false, true, true, true, true, true, false, true, true, true, true, true, true, true, true, true, true, true, true, true, true, true, false, false, false, false, false, false, false] rfl rfl rfl rfl (two_of HT_.out (by kernel_rfl)) (by decide) (by decide) (fun K hK => ?_) (fun K hK => ?_)
                              · skip
                                have hsn_ : w35.cell? ⟨gb192, 1, none⟩ = some (.int .i64 x193001_2) := (blk_cell BK192.out 1).trans rfl
                                refine value_ (w1 := ?_) (v := ?_) (by rfl) rfl ?_ ?_
                                rotate_left 2
                                · go_simp
                                  constructor
                                  · rfl
                                  · rfl
                                refine hK.out _ _ ⟨hHeld.1, hHeld.2.1, hHeld.2.2.1, hHeld.2.2.2⟩ (fun hHeld => ?_)
                                clear hK K
                                refine norm_ (a' := ?_) ?_ ?_
                                rotate_left
                                · show Act.put _ (some 63) _ = _
                                  simp only [Act.put, List.setIfInBounds_toArray, List.set_cons_zero, List.set_cons_succ, i64_w, i32_w]
                                  rfl
                                refine pure_ (i := 7) (N := some 69) (v := ?_) (a' := ?_) #[true, true, true, true, true, true, true, true, true, true, true, true, true, true, true, true, true, false, true, true, true, true, true, false, false, false, false, false, false, false] rfl rfl (any_of HT_.out (by kernel_rfl)) (fun _ _ _ h => h) (Or.inl ⟨by rfl, ?_⟩) ?_ ?_
                                rotate_left
                                · intro w'
                                  go_simp
                                  with_reducible rfl
                                rotate_left
                                · simp only [Act.put, List.setIfInBounds_toArray, List.set_cons_zero, List.set_cons_succ, i64_w, i32_w]
                                  rfl
                                refine one_ (i := 17) (N := some 79) #[true, true, true, true, true, true, true, true, true, true, true, true, true, true, true, true, true, true, true, true, true, true, true, false, false, false, false, false, false, false] rfl rfl (one_of HT_.out (by kernel_rfl)) (by decide) (fun K hK => ?_)
                                have hsn_ : w35.cell? ⟨gb192, 3, none⟩ = some (.int .i64 x193003_2) := (blk_cell BK192.out 3).trans rfl
                                refine value_ (w1 := ?_) (v := ?_) (by rfl) rfl ?_ ?_
                                rotate_left 2
                                · go_simp
                                  constructor
                                  · rfl
                                  · rfl
                                refine hK.out _ _ ⟨hHeld.1, hHeld.2.1, hHeld.2.2.1, hHeld.2.2.2⟩ (fun hHeld => ?_)
                                clear hK K
                                refine norm_ (a' := ?_) ?_ ?_
                                rotate_left
                                · show Act.put _ (some 79) _ = _
                                  simp only [Act.put, List.setIfInBounds_toArray, List.set_cons_zero, List.set_cons_succ, i64_w, i32_w]
                                  rfl
                                refine pure_ (i := 23) (N := some 85) (v := ?_) (a' := ?_) #[true, true, true, true, true, true, true, true, true, true, true, true, true, true, true, true, true, true, true, true, true, true, true, true, false, false, false, false, false, false] rfl rfl (any_of HT_.out (by kernel_rfl)) (fun _ _ _ h => h) (Or.inl ⟨by rfl, ?_⟩) ?_ ?_
                                rotate_left
                                · intro w'
                                  go_simp
                                  with_reducible rfl
                                rotate_left
                                · simp only [Act.put, List.setIfInBounds_toArray, List.set_cons_zero, List.set_cons_succ, i64_w, i32_w]
                                  rfl
                                exact norm_ (by simp only [putAll, Act.put, List.setIfInBounds_toArray, List.set_cons_zero, List.set_cons_succ]) (hCont () _ rfl)
                              · skip
                                have hsn_ : w35.cell? ⟨gb192, 3, none⟩ = some (.int .i64 x193003_2) := (blk_cell BK192.out 3).trans rfl
                                refine value_ (w1 := ?_) (v := ?_) (by rfl) rfl ?_ ?_
                                rotate_left 2
                                · go_simp
                                  constructor
                                  · rfl
                                  · rfl
                                refine hK.out _ _ ⟨hHeld.1, hHeld.2.1, hHeld.2.2.1, hHeld.2.2.2⟩ (fun hHeld => ?_)
                                clear hK K
                                refine norm_ (a' := ?_) ?_ ?_
                                rotate_left
                                · show Act.put _ (some 79) _ = _
                                  simp only [Act.put, List.setIfInBounds_toArray, List.set_cons_zero, List.set_cons_succ, i64_w, i32_w]
                                  rfl
                                refine pure_ (i := 23) (N := some 85) (v := ?_) (a' := ?_) #[true, false, true, true, true, true, true, false, true, true, true, true, true, true, true, true, true, true, true, true, true, true, true, true, false, false, false, false, false, false] rfl rfl (any_of HT_.out (by kernel_rfl)) (fun _ _ _ h => h) (Or.inl ⟨by rfl, ?_⟩) ?_ ?_
                                rotate_left
                                · intro w'
                                  go_simp
                                  with_reducible rfl
                                rotate_left
                                · simp only [Act.put, List.setIfInBounds_toArray, List.set_cons_zero, List.set_cons_succ, i64_w, i32_w]
                                  rfl
                                refine one_ (i := 1) (N := some 63) #[true, true, true, true, true, true, true, false, true, true, true, true, true, true, true, true, true, true, true, true, true, true, true, true, false, false, false, false, false, false] rfl rfl (one_of HT_.out (by kernel_rfl)) (by decide) (fun K hK => ?_)
                                have hsn_ : w35.cell? ⟨gb192, 1, none⟩ = some (.int .i64 x193001_2) := (blk_cell BK192.out 1).trans rfl
                                refine value_ (w1 := ?_) (v := ?_) (by rfl) rfl ?_ ?_
                                rotate_left 2
                                · go_simp
                                  constructor
                                  · rfl
                                  · rfl
                                refine hK.out _ _ ⟨hHeld.1, hHeld.2.1, hHeld.2.2.1, hHeld.2.2.2⟩ (fun hHeld => ?_)
                                clear hK K
                                refine norm_ (a' := ?_) ?_ ?_
                                rotate_left
                                · show Act.put _ (some 63) _ = _
                                  simp only [Act.put, List.setIfInBounds_toArray, List.set_cons_zero, List.set_cons_succ, i64_w, i32_w]
                                  rfl
                                refine pure_ (i := 7) (N := some 69) (v := ?_) (a' := ?_) #[true, true, true, true, true, true, true, true, true, true, true, true, true, true, true, true, true, true, true, true, true, true, true, true, false, false, false, false, false, false] rfl rfl (any_of HT_.out (by kernel_rfl)) (fun _ _ _ h => h) (Or.inl ⟨by rfl, ?_⟩) ?_ ?_
                                rotate_left
                                · intro w'
                                  go_simp
                                  with_reducible rfl
                                rotate_left
                                · simp only [Act.put, List.setIfInBounds_toArray, List.set_cons_zero, List.set_cons_succ, i64_w, i32_w]
                                  rfl
                                exact norm_ (by simp only [putAll, Act.put, List.setIfInBounds_toArray, List.set_cons_zero, List.set_cons_succ]) (hCont () _ rfl)
                            · skip
                              have hsn_ : w35.cell? ⟨gb192, 3, none⟩ = some (.int .i64 x193003_2) := (blk_cell BK192.out 3).trans rfl
                              refine value_ (w1 := ?_) (v := ?_) (by rfl) rfl ?_ ?_
                              rotate_left 2
                              · go_simp
                                constructor
                                · rfl
                                · rfl
                              refine hK.out _ _ ⟨hHeld.1, hHeld.2.1, hHeld.2.2.1, hHeld.2.2.2⟩ (fun hHeld => ?_)
                              clear hK K
                              refine norm_ (a' := ?_) ?_ ?_
                              rotate_left
                              · show Act.put _ (some 79) _ = _
                                simp only [Act.put, List.setIfInBounds_toArray, List.set_cons_zero, List.set_cons_succ, i64_w, i32_w]
                                rfl
                              refine pure_ (i := 23) (N := some 85) (v := ?_) (a' := ?_) #[true, false, true, true, true, true, true, false, true, false, true, true, true, true, true, false, true, true, true, true, true, true, true, true, false, false, false, false, false, false] rfl rfl (any_of HT_.out (by kernel_rfl)) (fun _ _ _ h => h) (Or.inl ⟨by rfl, ?_⟩) ?_ ?_
                              rotate_left
                              · intro w'
                                go_simp
                                with_reducible rfl
                              rotate_left
                              · simp only [Act.put, List.setIfInBounds_toArray, List.set_cons_zero, List.set_cons_succ, i64_w, i32_w]
                                rfl
                              refine two_ (i := 1) (j := 9) (Ni := some 63) (Nj := some 71) #[true, true, true, true, true, true, true, false, true, false, true, true, true, true, true, false, true, true, true, true, true, true, true, true, false, false, false, false, false, false] #[true, false, true, true, true, true, true, false, true, true, true, true, true, true, true, false, true, true, true, true, true, true, true, true, false, false, false, false, false, false] rfl rfl rfl rfl (two_of HT_.out (by kernel_rfl)) (by decide) (by decide) (fun K hK => ?_) (fun K hK => ?_)
                              · skip
                                have hsn_ : w35.cell? ⟨gb192, 1, none⟩ = some (.int .i64 x193001_2) := (blk_cell BK192.out 1).trans rfl
                                refine value_ (w1 := ?_) (v := ?_) (by rfl) rfl ?_ ?_
                                rotate_left 2
                                · go_simp
                                  constructor
                                  · rfl
                                  · rfl
                                refine hK.out _ _ ⟨hHeld.1, hHeld.2.1, hHeld.2.2.1, hHeld.2.2.2⟩ (fun hHeld => ?_)
                                clear hK K
                                refine norm_ (a' := ?_) ?_ ?_
                                rotate_left
                                · show Act.put _ (some 63) _ = _
                                  simp only [Act.put, List.setIfInBounds_toArray, List.set_cons_zero, List.set_cons_succ, i64_w, i32_w]
                                  rfl
                                refine pure_ (i := 7) (N := some 69) (v := ?_) (a' := ?_) #[true, true, true, true, true, true, true, true, true, false, true, true, true, true, true, false, true, true, true, true, true, true, true, true, false, false, false, false, false, false] rfl rfl (any_of HT_.out (by kernel_rfl)) (fun _ _ _ h => h) (Or.inl ⟨by rfl, ?_⟩) ?_ ?_
                                rotate_left
                                · intro w'
                                  go_simp
                                  with_reducible rfl
                                rotate_left
                                · simp only [Act.put, List.setIfInBounds_toArray, List.set_cons_zero, List.set_cons_succ, i64_w, i32_w]
                                  rfl
                                refine one_ (i := 9) (N := some 71) #[true, true, true, true, true, true, true, true, true, true, true, true, true, true, true, false, true, true, true, true, true, true, true, true, false, false, false, false, false, false] rfl rfl (one_of HT_.out (by kernel_rfl)) (by decide) (fun K hK => ?_)
                                have hsn_ : w35.cell? ⟨gb192, 2, none⟩ = some (.int .i64 x193002_2) := (blk_cell BK192.out 2).trans rfl
                                refine value_ (w1 := ?_) (v := ?_) (by rfl) rfl ?_ ?_
                                rotate_left 2
                                · go_simp
                                  constructor
                                  · rfl
                                  · rfl
                                refine hK.out _ _ ⟨hHeld.1, hHeld.2.1, hHeld.2.2.1, hHeld.2.2.2⟩ (fun hHeld => ?_)
                                clear hK K
                                refine norm_ (a' := ?_) ?_ ?_
                                rotate_left
                                · show Act.put _ (some 71) _ = _
                                  simp only [Act.put, List.setIfInBounds_toArray, List.set_cons_zero, List.set_cons_succ, i64_w, i32_w]
                                  rfl
                                refine pure_ (i := 15) (N := some 77) (v := ?_) (a' := ?_) #[true, true, true, true, true, true, true, true, true, true, true, true, true, true, true, true, true, true, true, true, true, true, true, true, false, false, false, false, false, false] rfl rfl (any_of HT_.out (by kernel_rfl)) (fun _ _ _ h => h) (Or.inl ⟨by rfl, ?_⟩) ?_ ?_
                                rotate_left
                                · intro w'
                                  go_simp
                                  with_reducible rfl
                                rotate_left
                                · simp only [Act.put, List.setIfInBounds_toArray, List.set_cons_zero, List.set_cons_succ, i64_w, i32_w]
                                  rfl
                                exact norm_ (by simp only [putAll, Act.put, List.setIfInBounds_toArray, List.set_cons_zero, List.set_cons_succ]) (hCont () _ rfl)
                              · skip
                                have hsn_ : w35.cell? ⟨gb192, 2, none⟩ = some (.int .i64 x193002_2) := (blk_cell BK192.out 2).trans rfl
                                refine value_ (w1 := ?_) (v := ?_) (by rfl) rfl ?_ ?_
                                rotate_left 2
                                · go_simp
                                  constructor
                                  · rfl
                                  · rfl
                                refine hK.out _ _ ⟨hHeld.1, hHeld.2.1, hHeld.2.2.1, hHeld.2.2.2⟩ (fun hHeld => ?_)
                                clear hK K
                                refine norm_ (a' := ?_) ?_ ?_
                                rotate_left
                                · show Act.put _ (some 71) _ = _
                                  simp only [Act.put, List.setIfInBounds_toArray, List.set_cons_zero, List.set_cons_succ, i64_w, i32_w]
                                  rfl
                                refine pure_ (i := 15) (N := some 77) (v := ?_) (a' := ?_) #[true, false, true, true, true, true, true, false, true, true, true, true, true, true, true, true, true, true, true, true, true, true, true, true, false, false, false, false, false, false] rfl rfl (any_of HT_.out (by kernel_rfl)) (fun _ _ _ h => h) (Or.inl ⟨by rfl, ?_⟩) ?_ ?_
                                rotate_left
                                · intro w'
                                  go_simp
                                  with_reducible rfl
                                rotate_left
                                · simp only [Act.put, List.setIfInBounds_toArray, List.set_cons_zero, List.set_cons_succ, i64_w, i32_w]
                                  rfl
                                refine one_ (i := 1) (N := some 63) #[true, true, true, true, true, true, true, false, true, true, true, true, true, true, true, true, true, true, true, true, true, true, true, true, false, false, false, false, false, false] rfl rfl (one_of HT_.out (by kernel_rfl)) (by decide) (fun K hK => ?_)
                                have hsn_ : w35.cell? ⟨gb192, 1, none⟩ = some (.int .i64 x193001_2) := (blk_cell BK192.out 1).trans rfl
                                refine value_ (w1 := ?_) (v := ?_) (by rfl) rfl ?_ ?_
                                rotate_left 2
                                · go_simp
                                  constructor
                                  · rfl
                                  · rfl
                                refine hK.out _ _ ⟨hHeld.1, hHeld.2.1, hHeld.2.2.1, hHeld.2.2.2⟩ (fun hHeld => ?_)
                                clear hK K
                                refine norm_ (a' := ?_) ?_ ?_
                                rotate_left
                                · show Act.put _ (some 63) _ = _
                                  simp only [Act.put, List.setIfInBounds_toArray, List.set_cons_zero, List.set_cons_succ, i64_w, i32_w]
                                  rfl
                                refine pure_ (i := 7) (N := some 69) (v := ?_) (a' := ?_) #[true, true, true, true, true, true, true, true, true, true, true, true, true, true, true, true, true, true, true, true, true, true, true, true, false, false, false, false, false, false] rfl rfl (any_of HT_.out (by kernel_rfl)) (fun _ _ _ h => h) (Or.inl ⟨by rfl, ?_⟩) ?_ ?_
                                rotate_left
                                · intro w'
                                  go_simp
                                  with_reducible rfl
                                rotate_left
                                · simp only [Act.put, List.setIfInBounds_toArray, List.set_cons_zero, List.set_cons_succ, i64_w, i32_w]
                                  rfl
                                exact norm_ (by simp only [putAll, Act.put, List.setIfInBounds_toArray, List.set_cons_zero, List.set_cons_succ]) (hCont () _ rfl)
                          intro _ wz_ hWz_
                          subst wz_
                          refine norm_ (a' := ?_) ?_ ?_
                          rotate_left
                          · simp only [putAll, Act.put, List.setIfInBounds_toArray, List.set_cons_zero, List.set_cons_succ]
                            rfl
                          refine pure_ (i := 24) (N := some 86) (v := ?_) (a' := ?_) #[true, true, true, true, true, true, true, true, true, true, true, true, true, true, true, true, true, true, true, true, true, true, true, true, true, false, false, false, false, false] rfl rfl (any_of HT_.out (by kernel_rfl)) (fun _ _ _ h => h) (Or.inl ⟨by rfl, ?_⟩) ?_ ?_
                          rotate_left
                          · intro w'
                            go_simp
                            with_reducible rfl
                          rotate_left
                          · simp only [Act.put, List.setIfInBounds_toArray, List.set_cons_zero, List.set_cons_succ, i64_w, i32_w]
                            rfl
                          refine one_ (i := 25) (N := none) #[true, true, true, true, true, true, true, true, true, true, true, true, true, true, true, true, true, true, true, true, true, true, true, true, true, true, false, false, false, false] rfl rfl (one_of HT_.out (by kernel_rfl)) (by decide) (fun K hK => ?_)
                          have hQ_ := (‹Aside0 (Kd.R _ _ w35 _ _ (.slice (some ad193) _ _) _)›).out
                          have hSW_ : (ad193.add ((x14_2).toNat * 4)).block ≠ gb192 := by rw [add_block]; intro e_; exact Kd.R_away hQ_ (fun k_ hk_ => by first | exact hk_ | exact hk_.2 | exact hk_.2.2 | exact hk_.2.2.2 | exact hk_.1 | exact hk_.2.1) (by simp [Value.ownBlock, e_])
                          have hs36 : w35.cell? ⟨gb192, 1, none⟩ = some (.int .i64 x193001_2) := (blk_cell BK192.out 1).trans rfl
                          have hfs36 := blk_frozen BK192.out 1
                          refine skip_ (w1 := ?_) (by rfl) rfl ?_ ?_
                          rotate_left
                          · go_simp
                            rfl
                          refine hK.out _ _ ⟨(cell_far (p := ⟨gb192, 1, none⟩) (a := (ad193.add ((x14_2).toNat * 4))) hSW_ _).trans hHeld.1, (cell_far (p := ⟨gb192, 1, none⟩) (a := ⟨(ad193.add ((x14_2).toNat * 4)).block, (ad193.add ((x14_2).toNat * 4)).off + 1, none⟩) hSW_ _).trans hHeld.2.1, (cell_far (p := ⟨gb192, 1, none⟩) (a := ⟨(ad193.add ((x14_2).toNat * 4)).block, (ad193.add ((x14_2).toNat * 4)).off + 2, none⟩) hSW_ _).trans hHeld.2.2.1, (cell_far (p := ⟨gb192, 1, none⟩) (a := ⟨(ad193.add ((x14_2).toNat * 4)).block, (ad193.add ((x14_2).toNat * 4)).off + 3, none⟩) hSW_ _).trans hHeld.2.2.2⟩ (fun hHeld => ?_)
                          clear hK K
                          refine pure_ (i := 26) (N := some 87) (v := ?_) (a' := ?_) #[true, true, true, true, true, true, true, true, true, true, true, true, true, true, true, true, true, true, true, true, true, true, true, true, true, true, true, false, false, false] rfl rfl (any_of HT_.out (by kernel_rfl)) (fun _ _ _ h => h) (Or.inl ⟨by rfl, ?_⟩) ?_ ?_
                          rotate_left
                          · intro w'
                            go_simp
                            with_reducible rfl
                          rotate_left
                          · simp only [Act.put, List.setIfInBounds_toArray, List.set_cons_zero, List.set_cons_succ, i64_w, i32_w]
                            rfl
                          refine one_ (i := 27) (N := none) #[true, true, true, true, true, true, true, true, true, true, true, true, true, true, true, true, true, true, true, true, true, true, true, true, true, true, true, true, false, false] rfl rfl (one_of HT_.out (by kernel_rfl)) (by decide) (fun K hK => ?_)
                          have hs37 : w35.cell? ⟨gb192, 2, none⟩ = some (.int .i64 x193002_2) := (blk_cell BK192.out 2).trans rfl
                          have hfs37 := blk_frozen BK192.out 2
                          refine skip_ (w1 := ?_) (by rfl) rfl ?_ ?_
                          rotate_left
                          · go_simp
                            rfl
                          refine hK.out _ _ ⟨(cell_far (p := ⟨gb192, 2, none⟩) (a := (ad193.add ((x14_2).toNat * 4))) hSW_ _).trans hHeld.1, (cell_far (p := ⟨gb192, 2, none⟩) (a := ⟨(ad193.add ((x14_2).toNat * 4)).block, (ad193.add ((x14_2).toNat * 4)).off + 1, none⟩) hSW_ _).trans hHeld.2.1, (cell_far (p := ⟨gb192, 2, none⟩) (a := ⟨(ad193.add ((x14_2).toNat * 4)).block, (ad193.add ((x14_2).toNat * 4)).off + 2, none⟩) hSW_ _).trans hHeld.2.2.1, (cell_far (p := ⟨gb192, 2, none⟩) (a := ⟨(ad193.add ((x14_2).toNat * 4)).block, (ad193.add ((x14_2).toNat * 4)).off + 3, none⟩) hSW_ _).trans hHeld.2.2.2⟩ (fun hHeld => ?_)
                          clear hK K
                          refine pure_ (i := 28) (N := some 88) (v := ?_) (a' := ?_) #[true, true, true, true, true, true, true, true, true, true, true, true, true, true, true, true, true, true, true, true, true, true, true, true, true, true, true, true, true, false] rfl rfl (any_of HT_.out (by kernel_rfl)) (fun _ _ _ h => h) (Or.inl ⟨by rfl, ?_⟩) ?_ ?_
                          rotate_left
                          · intro w'
                            go_simp
                            with_reducible rfl
                          rotate_left
                          · simp only [Act.put, List.setIfInBounds_toArray, List.set_cons_zero, List.set_cons_succ, i64_w, i32_w]
                            rfl
                          refine last_ (i := 29) (N := none) #[true, true, true, true, true, true, true, true, true, true, true, true, true, true, true, true, true, true, true, true, true, true, true, true, true, true, true, true, true, true] rfl rfl (one_of HT_.out (by kernel_rfl)) (by decide) (fun K hK => ?_)
                          have hs38 : w35.cell? ⟨gb192, 3, none⟩ = some (.int .i64 x193003_2) := (blk_cell BK192.out 3).trans rfl
                          have hfs38 := blk_frozen BK192.out 3
                          refine skip_ (w1 := ?_) (by rfl) rfl ?_ ?_
                          rotate_left
                          · go_simp
                            rfl
                          refine hK.out _ _ ?_
                          clear hK K
                          refine done_ (done_of HT_.out (by kernel_rfl)) ?_
                          try go_wp2
                          go_roundg k2
                          case measure => have := HK1.out; have := HK2.out; omega
                          case rel => exact ⟨(wrap64 (x14_2 + 1)), (wrap64 (x193001_2 - ((rd_T41 t182 x14_2).f1))), (wrap64 (x193002_2 - ((rd_T41 t182 x14_2).f2))), (wrap64 (x193003_2 - ((rd_T41 t182 x14_2).f3))), (by first | rfl | (simp; done) | (simp [*]; done)), H', ⟨by have := HK1.out; have := HK2.out; omega⟩, ⟨by (with_reducible repeat (first | apply Kd.R_alloc | apply Kd.R_drewN | apply Kd.R_drew)); exact Kd.R_mono (Kd.R_far (p := ⟨gb192, 3, none⟩) (Kd.R_far (p := ⟨gb192, 2, none⟩) (Kd.R_far (p := ⟨gb192, 1, none⟩) (Kd.R_types HO_5.out BK192.out (by decide)) (fun _ hk => hk.2) (.int .i64 (wrap64 (x193001_2 - ((rd_T41 t182 x14_2).f1))))) (fun _ hk => hk.2) (.int .i64 (wrap64 (x193002_2 - ((rd_T41 t182 x14_2).f2))))) (fun _ hk => hk.2) (.int .i64 (wrap64 (x193003_2 - ((rd_T41 t182 x14_2).f3))))) (fun _ hk => trivial)⟩, ⟨by (with_reducible repeat (first | apply Kd.R_alloc | apply Kd.R_drewN | apply Kd.R_drew)); exact Kd.R_mono (Kd.R_far (p := ⟨gb192, 3, none⟩) (Kd.R_far (p := ⟨gb192, 2, none⟩) (Kd.R_far (p := ⟨gb192, 1, none⟩) (Kd.R_mono HO_9.out (fun k_ hk => (⟨hk, hk.2.2⟩ : _ ∧ k_ ≠ gb192))) (fun _ hk => hk.2) (.int .i64 (wrap64 (x193001_2 - ((rd_T41 t182 x14_2).f1))))) (fun _ hk => hk.2) (.int .i64 (wrap64 (x193002_2 - ((rd_T41 t182 x14_2).f2))))) (fun _ hk => hk.2) (.int .i64 (wrap64 (x193003_2 - ((rd_T41 t182 x14_2).f3))))) (fun _ hk => ⟨hk.1.1, ⟨hk.1.2.1, hk.1.2.2⟩⟩)⟩, ⟨by (with_reducible repeat (first | apply Kd.R_alloc | apply Kd.R_drewN | apply Kd.R_drew)); exact Kd.R_mono (Kd.R_far (p := ⟨gb192, 3, none⟩) (Kd.R_far (p := ⟨gb192, 2, none⟩) (Kd.R_far (p := ⟨gb192, 1, none⟩) (Kd.R_mono HO_10.out (fun k_ hk => (⟨hk, hk.2.2⟩ : _ ∧ k_ ≠ gb192))) (fun _ hk => hk.2) (.int .i64 (wrap64 (x193001_2 - ((rd_T41 t182 x14_2).f1))))) (fun _ hk => hk.2) (.int .i64 (wrap64 (x193002_2 - ((rd_T41 t182 x14_2).f2))))) (fun _ hk => hk.2) (.int .i64 (wrap64 (x193003_2 - ((rd_T41 t182 x14_2).f3))))) (fun _ hk => ⟨hk.1.1, ⟨hk.1.2.1, hk.1.2.2⟩⟩)⟩, ⟨by (with_reducible repeat (first | apply Kd.R_alloc | apply Kd.R_drewN | apply Kd.R_drew)); exact Kd.R_mono (Kd.R_far (p := ⟨gb192, 3, none⟩) (Kd.R_far (p := ⟨gb192, 2, none⟩) (Kd.R_far (p := ⟨gb192, 1, none⟩) (Kd.R_mono HO_11.out (fun k_ hk => (⟨hk, hk.2.2⟩ : _ ∧ k_ ≠ gb192))) (fun _ hk => hk.2) (.int .i64 (wrap64 (x193001_2 - ((rd_T41 t182 x14_2).f1))))) (fun _ hk => hk.2) (.int .i64 (wrap64 (x193002_2 - ((rd_T41 t182 x14_2).f2))))) (fun _ hk => hk.2) (.int .i64 (wrap64 (x193003_2 - ((rd_T41 t182 x14_2).f3))))) (fun _ hk => ⟨hk.1.1, ⟨hk.1.2.1, hk.1.2.2⟩⟩)⟩, ⟨by (with_reducible repeat (first | refine blk_drewN ?_ _ | refine blk_drew ?_ | refine blk_alloc ?_ _)); refine blk_put (cs := #[.int .i64 ((rd_T41 t179 x12_1).f0), .int .i64 (wrap64 (x193001_2 - ((rd_T41 t182 x14_2).f1))), .int .i64 (wrap64 (x193002_2 - ((rd_T41 t182 x14_2).f2))), .int .i64 x193003_2]) ?_ 3 _ rfl; (with_reducible repeat (first | refine blk_drewN ?_ _ | refine blk_drew ?_ | refine blk_alloc ?_ _)); refine blk_put (cs := #[.int .i64 ((rd_T41 t179 x12_1).f0), .int .i64 (wrap64 (x193001_2 - ((rd_T41 t182 x14_2).f1))), .int .i64 x193002_2, .int .i64 x193003_2]) ?_ 2 _ rfl; (with_reducible repeat (first | refine blk_drewN ?_ _ | refine blk_drew ?_ | refine blk_alloc ?_ _)); refine blk_put (cs := #[.int .i64 ((rd_T41 t179 x12_1).f0), .int .i64 x193001_2, .int .i64 x193002_2, .int .i64 x193003_2]) ?_ 1 _ rfl; (with_reducible repeat (first | refine blk_drewN ?_ _ | refine blk_drew ?_ | refine blk_alloc ?_ _)); exact BK192.out⟩, ⟨by repeat (first | (with_reducible first | exact HB.out | apply below_alloc | apply pw_below_drewN | apply below_drew1 | refine below_set ?_ GE192.out) | exact HB.out)⟩⟩
                        · rw [if_neg c32] at H
                          have c32b0 : (((rd_T41 t182 x14_2).f0) == ((rd_T41 t179 x12_1).f0)) = false := beq_eq_false_iff_ne.mpr c32
                          have c32b1 : (((rd_T41 t182 x14_2).f0) != ((rd_T41 t179 x12_1).f0)) = true := bne_iff_ne.mpr c32
                          have H' := Aside0.mk H
                          clear H
                          obtain ⟨Ao39, co39, eo39⟩ := Kd.R_slice HO_10.out
                          subst eo39
                          try go_wp2
                          have n0_ := Aside0.mk (Kd.R_drew HO_5.out)
                          have n1_ := Aside0.mk (Kd.R_drew HO_9.out)
                          have n2_ := Aside0.mk (Kd.R_drew HO_10.out)
                          have n3_ := Aside0.mk (Kd.R_drew HO_11.out)
                          have n4_ := Aside0.mk (blk_drew BK192.out)
                          have n5_ := Aside0.mk (below_drew1 HB.out)
                          clear HO_5
                          clear HO_9
                          clear HO_10
                          clear HO_11
                          clear BK192
                          clear HB
                          have HO_5 := n0_
                          have HO_9 := n1_
                          have HO_10 := n2_
                          have HO_11 := n3_
                          have BK192 := n4_
                          have HB := n5_
                          clear n0_ n1_ n2_ n3_ n4_ n5_
                          have p193 : 0 ≤ (x14_2 : Int) := of_decide_eq_true (by first | (with_reducible assumption) | assumption)
                          have q193 : x14_2 < (t182.length : Int) := of_decide_eq_true (by first | (with_reducible assumption) | assumption)
                          obtain ⟨ad193, e193, hx193_0, hx193_1, hx193_2, hx193_3⟩ := at_T41 (Kd.R_reads' HO_10.out).2.2 x14_2 p193 q193
                          cases e193
                          replace p193 := eq_true p193
                          replace q193 := eq_true q193
                          refine start_ (n := 8) (S := fun w' => w'.cell? ⟨gb192, 0, none⟩ = some (.int .i64 ((rd_T41 t179 x12_1).f0)) ∧ w'.cell? ⟨gb192, 1, none⟩ = some (.int .i64 x193001_2) ∧ w'.cell? ⟨gb192, 2, none⟩ = some (.int .i64 x193002_2) ∧ w'.cell? ⟨gb192, 3, none⟩ = some (.int .i64 x193003_2) ∧ w'.cell? (ad193.add ((x14_2).toNat * 4)) = some (.int .i64 ((rd_T41 t182 x14_2).f0)) ∧ w'.cell? ⟨(ad193.add ((x14_2).toNat * 4)).block, (ad193.add ((x14_2).toNat * 4)).off + 1, none⟩ = some (.int .i64 ((rd_T41 t182 x14_2).f1)) ∧ w'.cell? ⟨(ad193.add ((x14_2).toNat * 4)).block, (ad193.add ((x14_2).toNat * 4)).off + 2, none⟩ = some (.int .i64 ((rd_T41 t182 x14_2).f2)) ∧ w'.cell? ⟨(ad193.add ((x14_2).toNat * 4)).block, (ad193.add ((x14_2).toNat * 4)).off + 3, none⟩ = some (.int .i64 ((rd_T41 t182 x14_2).f3))) (ds := []) #[false, false, false, false, false, false, false, false] (by kernel_rfl) rfl rfl ⟨(blk_cell BK192.out 0).trans rfl, (blk_cell BK192.out 1).trans rfl, (blk_cell BK192.out 2).trans rfl, (blk_cell BK192.out 3).trans rfl, hx193_0, hx193_1, hx193_2, hx193_3⟩ (fun hHeld => ?_); refine with_tabW coraclelaw24_AuditParts.tab14 coraclelaw24_AuditParts.bits14 (fun HT_ HW_ => ?_)
                          generalize wr.drew = w40 at HO_5 HO_9 HO_10 HO_11 BK192 HB hx193_0 hx193_1 hx193_2 hx193_3 hHeld ⊢
                          refine pure_ (i := 0) (N := some 54) (v := ?_) (a' := ?_) #[true, false, false, false, false, false, false, false] rfl rfl (any_of HT_.out (by kernel_rfl)) (fun _ _ _ h => h) (Or.inl ⟨by rfl, ?_⟩) ?_ ?_
                          rotate_left
                          · intro w'
                            go_simp
                            with_reducible rfl
                          rotate_left
                          · simp only [Act.put, List.setIfInBounds_toArray, List.set_cons_zero, List.set_cons_succ, i64_w, i32_w]
                            rfl
                          refine pure_ (i := 1) (N := some 55) (v := ?_) (a' := ?_) #[true, true, false, false, false, false, false, false] rfl rfl (any_of HT_.out (by kernel_rfl)) (fun _ _ _ h => h) (Or.inl ⟨by rfl, ?_⟩) ?_ ?_
                          rotate_left
                          · intro w'
                            go_simp
                            with_reducible rfl
                          rotate_left
                          · simp only [Act.put, List.setIfInBounds_toArray, List.set_cons_zero, List.set_cons_succ, i64_w, i32_w]
                            rfl
                          refine pure_ (i := 2) (N := some 56) (v := ?_) (a' := ?_) #[true, true, true, false, false, false, false, false] rfl rfl (any_of HT_.out (by kernel_rfl)) (fun _ _ _ h => h) (Or.inl ⟨by rfl, ?_⟩) ?_ ?_
                          rotate_left
                          · intro w'
                            go_simp
                            with_reducible rfl
                          rotate_left
                          · simp only [Act.put, List.setIfInBounds_toArray, List.set_cons_zero, List.set_cons_succ, i64_w, i32_w]
                            rfl
                          refine pure_ (i := 3) (N := some 57) (v := ?_) (a' := ?_) #[true, true, true, true, false, false, false, false] rfl rfl (any_of HT_.out (by kernel_rfl)) (fun _ _ _ h => h) (Or.inl ⟨by rfl, ?_⟩) ?_ ?_
                          rotate_left
                          · intro w'
                            go_simp
                            with_reducible rfl
                          rotate_left
                          · simp only [Act.put, List.setIfInBounds_toArray, List.set_cons_zero, List.set_cons_succ, i64_w, i32_w]
                            rfl
                          refine pure_ (i := 5) (N := some 59) (v := ?_) (a' := ?_) #[true, true, true, true, false, true, false, false] rfl rfl (any_of HT_.out (by kernel_rfl)) (fun _ _ _ h => h) (Or.inl ⟨by rfl, ?_⟩) ?_ ?_
                          rotate_left
                          · intro w'
                            go_simp
                            with_reducible rfl
                          rotate_left
                          · simp only [Act.put, List.setIfInBounds_toArray, List.set_cons_zero, List.set_cons_succ, i64_w, i32_w]
                            rfl
                          refine take_ (i := 4) (N := some 58) (v := ?_) (a' := ?_) #[true, true, true, true, true, true, false, false] rfl rfl (take_ofW HT_.out HW_.out (by kernel_rfl)) (fun _ _ _ h => h) (Or.inl ⟨by rfl, ?_⟩) hHeld ?_ ?_
                          rotate_left
                          · rintro w' ⟨s0, s1, s2, s3, s4, s5, s6, s7⟩
                            go_simp
                            with_reducible rfl
                          rotate_left
                          · simp only [Act.put, List.setIfInBounds_toArray, List.set_cons_zero, List.set_cons_succ, i64_w, i32_w]
                            rfl
                          refine take_ (i := 6) (N := some 60) (v := ?_) (a' := ?_) #[true, true, true, true, true, true, true, false] rfl rfl (take_ofW HT_.out HW_.out (by kernel_rfl)) (fun _ _ _ h => h) (Or.inl ⟨by rfl, ?_⟩) hHeld ?_ ?_
                          rotate_left
                          · rintro w' ⟨s0, s1, s2, s3, s4, s5, s6, s7⟩
                            go_simp
                            with_reducible rfl
                          rotate_left
                          · simp only [Act.put, List.setIfInBounds_toArray, List.set_cons_zero, List.set_cons_succ, i64_w, i32_w]
                            rfl
                          refine pure_ (i := 7) (N := some 61) (v := ?_) (a' := ?_) #[true, true, true, true, true, true, true, true] rfl rfl (any_of HT_.out (by kernel_rfl)) (fun _ _ _ h => h) (Or.inl ⟨by rfl, ?_⟩) ?_ ?_
                          rotate_left
                          · intro w'
                            go_simp
                            with_reducible rfl
                          rotate_left
                          · simp only [Act.put, List.setIfInBounds_toArray, List.set_cons_zero, List.set_cons_succ, i64_w, i32_w]
                            rfl
                          refine done_ (done_of HT_.out (by kernel_rfl)) ?_
                          try go_wp2
                          go_roundg k2
                          case measure => have := HK1.out; have := HK2.out; omega
                          case rel => exact ⟨(wrap64 (x14_2 + 1)), (x193001_2), (x193002_2), (x193003_2), (by first | rfl | (simp; done) | (simp [*]; done)), H', ⟨by have := HK1.out; have := HK2.out; omega⟩, ⟨by (with_reducible repeat (first | apply Kd.R_alloc | apply Kd.R_drewN | apply Kd.R_drew)); exact HO_5.out⟩, ⟨by (with_reducible repeat (first | apply Kd.R_alloc | apply Kd.R_drewN | apply Kd.R_drew)); exact HO_9.out⟩, ⟨by (with_reducible repeat (first | apply Kd.R_alloc | apply Kd.R_drewN | apply Kd.R_drew)); exact HO_10.out⟩, ⟨by (with_reducible repeat (first | apply Kd.R_alloc | apply Kd.R_drewN | apply Kd.R_drew)); exact HO_11.out⟩, ⟨by (with_reducible repeat (first | refine blk_drewN ?_ _ | refine blk_drew ?_ | refine blk_alloc ?_ _)); exact BK192.out⟩, ⟨by repeat (first | (with_reducible first | exact HB.out | apply below_alloc | apply pw_below_drewN | apply below_drew1 | refine below_set ?_ GE192.out) | exact HB.out)⟩⟩
                      · rw [if_neg c31] at H
                        exact absurd H (by simp)
                    · rw [if_neg c30] at H
                      have c30b0 : decide (x14_2 < (t182.length : Int)) = false := decide_eq_false c30
                      clear c30
                      have H' := Aside0.mk H
                      clear H
                      obtain ⟨Ao41, co41, eo41⟩ := Kd.R_slice HO_10.out
                      subst eo41
                      go_wp2
                      go_loopg [15] k2 (fun kq v15 w' => ∃ (x15_3 : Int) (x193001_3 : Int) (x193002_3 : Int) (x193003_3 : Int), v15 = .int .i64 x15_3 ∧ Aside0 (coraclelaw24_AuditParts.l2 kq t158 t179 t182 t185 x12_1 x15_3 ((rd_T41 t179 x12_1).f0) x193001_3 x193002_3 x193003_3 = some r) ∧ Aside0 (kq ≤ k2) ∧ Aside0 (Kd.R k44 44 w' w.heap.size (fun _ => True) (.slice Ao18 t158.length co18) t158) ∧ Aside0 (Kd.R k41 41 w' w.heap.size (fun k_ => some k_ ≠ ((.slice Ao41 t182.length co41) : Value).ownBlock ∧ some k_ ≠ (v186 : Value).ownBlock ∧ k_ ≠ gb192) (.slice (some ad191) t179.length co27) t179) ∧ Aside0 (Kd.R k41 41 w' w.heap.size (fun k_ => some k_ ≠ ((.slice (some ad191) t179.length co27) : Value).ownBlock ∧ some k_ ≠ (v186 : Value).ownBlock ∧ k_ ≠ gb192) (.slice Ao41 t182.length co41) t182) ∧ Aside0 (Kd.R k41 41 w' w.heap.size (fun k_ => some k_ ≠ ((.slice (some ad191) t179.length co27) : Value).ownBlock ∧ some k_ ≠ ((.slice Ao41 t182.length co41) : Value).ownBlock ∧ k_ ≠ gb192) v186 t185) ∧ Aside0 (w'.heap[gb192]? = some (.cells #[.int .i64 ((rd_T41 t179 x12_1).f0), .int .i64 x193001_3, .int .i64 x193002_3, .int .i64 x193003_3] 41 (0, 0))) ∧ Aside0 (Below w.heap.size w w'))
                      case atStart => exact ⟨(0), (x193001_2), (x193002_2), (x193003_2), (by first | rfl | (simp; done) | (simp [*]; done)), H', ⟨Nat.le_refl _⟩, ⟨by (with_reducible repeat (first | apply Kd.R_alloc | apply Kd.R_drewN | apply Kd.R_drew)); exact HO_5.out⟩, ⟨by (with_reducible repeat (first | apply Kd.R_alloc | apply Kd.R_drewN | apply Kd.R_drew)); exact HO_9.out⟩, ⟨by (with_reducible repeat (first | apply Kd.R_alloc | apply Kd.R_drewN | apply Kd.R_drew)); exact HO_10.out⟩, ⟨by (with_reducible repeat (first | apply Kd.R_alloc | apply Kd.R_drewN | apply Kd.R_drew)); exact HO_11.out⟩, ⟨by (with_reducible repeat (first | refine blk_drewN ?_ _ | refine blk_drew ?_ | refine blk_alloc ?_ _)); exact BK192.out⟩, ⟨by repeat (first | (with_reducible first | exact HB.out | apply below_alloc | apply pw_below_drewN | apply below_drew1 | refine below_set ?_ GE192.out) | exact HB.out)⟩⟩
                      case round =>
                        clear H'
                        try clear p1
                        try clear q1
                        try clear hx1
                        try clear p2
                        try clear c3
                        try clear p6
                        try clear p19
                        try clear q19
                        try clear hx19
                        try clear c30
                        try clear c30b0
                        try clear c31
                        try clear c32
                        try clear c32b0
                        try clear c32b1
                        try clear hx193_0
                        try clear hx193_1
                        try clear hx193_2
                        try clear hx193_3
                        try clear p193
                        try clear q193
                        obtain ⟨x15_3, x193001_3, x193002_3, x193003_3, rfl, HA, HK3, HO_5, HO_9, HO_10, HO_11, BK192, HB⟩ := hrel
                        cases gk with
                        | zero => exact absurd HA.out (by simp [coraclelaw24_AuditParts.l2])
                        | succ k3 =>
                          have H := HA.out
                          clear HA
                          simp only [coraclelaw24_AuditParts.l2] at H
                          by_cases c42 : x15_3 < (t185.length : Int)
                          · rw [if_pos c42] at H
                            have c42b0 : decide (x15_3 < (t185.length : Int)) = true := decide_eq_true c42
                            clear c42
                            by_cases c43 : 0 ≤ x15_3
                            · rw [if_pos c43] at H
                              have c43b0 : decide (0 ≤ x15_3) = true := decide_eq_true c43
                              clear c43
                              by_cases c44 : ((rd_T41 t185 x15_3).f0) = ((rd_T41 t179 x12_1).f0)
                              · rw [if_pos c44] at H
                                have c44b0 : (((rd_T41 t185 x15_3).f0) == ((rd_T41 t179 x12_1).f0)) = true := beq_iff_eq.mpr c44
                                have c44b1 : (((rd_T41 t185 x15_3).f0) != ((rd_T41 t179 x12_1).f0)) = false := bne_eq_false_iff_eq.mpr c44
                                clear c44
                                have H' := Aside0.mk H
                                clear H
                                obtain ⟨Ao45, co45, eo45⟩ := Kd.R_slice HO_11.out
                                subst eo45
                                try go_wp2
                                have n0_ := Aside0.mk (Kd.R_drew HO_5.out)
                                have n1_ := Aside0.mk (Kd.R_drew HO_9.out)
                                have n2_ := Aside0.mk (Kd.R_drew HO_10.out)
                                have n3_ := Aside0.mk (Kd.R_drew HO_11.out)
                                have n4_ := Aside0.mk (blk_drew BK192.out)
                                have n5_ := Aside0.mk (below_drew1 HB.out)
                                clear HO_5
                                clear HO_9
                                clear HO_10
                                clear HO_11
                                clear BK192
                                clear HB
                                have HO_5 := n0_
                                have HO_9 := n1_
                                have HO_10 := n2_
                                have HO_11 := n3_
                                have BK192 := n4_
                                have HB := n5_
                                clear n0_ n1_ n2_ n3_ n4_ n5_
                                have p197 : 0 ≤ (x15_3 : Int) := of_decide_eq_true (by first | (with_reducible assumption) | assumption)
                                have q197 : x15_3 < (t185.length : Int) := of_decide_eq_true (by first | (with_reducible assumption) | assumption)
                                obtain ⟨ad197, e197, hx197_0, hx197_1, hx197_2, hx197_3⟩ := at_T41 (Kd.R_reads' HO_11.out).2.2 x15_3 p197 q197
                                cases e197
                                replace p197 := eq_true p197
                                replace q197 := eq_true q197
                                refine start_ (n := 8) (S := fun w' => w'.cell? ⟨gb192, 0, none⟩ = some (.int .i64 ((rd_T41 t179 x12_1).f0)) ∧ w'.cell? ⟨gb192, 1, none⟩ = some (.int .i64 x193001_3) ∧ w'.cell? ⟨gb192, 2, none⟩ = some (.int .i64 x193002_3) ∧ w'.cell? ⟨gb192, 3, none⟩ = some (.int .i64 x193003_3) ∧ w'.cell? (ad197.add ((x15_3).toNat * 4)) = some (.int .i64 ((rd_T41 t185 x15_3).f0)) ∧ w'.cell? ⟨(ad197.add ((x15_3).toNat * 4)).block, (ad197.add ((x15_3).toNat * 4)).off + 1, none⟩ = some (.int .i64 ((rd_T41 t185 x15_3).f1)) ∧ w'.cell? ⟨(ad197.add ((x15_3).toNat * 4)).block, (ad197.add ((x15_3).toNat * 4)).off + 2, none⟩ = some (.int .i64 ((rd_T41 t185 x15_3).f2)) ∧ w'.cell? ⟨(ad197.add ((x15_3).toNat * 4)).block, (ad197.add ((x15_3).toNat * 4)).off + 3, none⟩ = some (.int .i64 ((rd_T41 t185 x15_3).f3))) (ds := []) #[false, false, false, false, false, false, false, false] (by kernel_rfl) rfl rfl ⟨(blk_cell BK192.out 0).trans rfl, (blk_cell BK192.out 1).trans rfl, (blk_cell BK192.out 2).trans rfl, (blk_cell BK192.out 3).trans rfl, hx197_0, hx197_1, hx197_2, hx197_3⟩ (fun hHeld => ?_); refine with_tabW coraclelaw24_AuditParts.tab19 coraclelaw24_AuditParts.bits19 (fun HT_ HW_ => ?_)
                                generalize wr.drew = w46 at HO_5 HO_9 HO_10 HO_11 BK192 HB hx197_0 hx197_1 hx197_2 hx197_3 hHeld ⊢
                                refine pure_ (i := 0) (N := some 95) (v := ?_) (a' := ?_) #[true, false, false, false, false, false, false, false] rfl rfl (any_of HT_.out (by kernel_rfl)) (fun _ _ _ h => h) (Or.inl ⟨by rfl, ?_⟩) ?_ ?_
                                rotate_left
                                · intro w'
                                  go_simp
                                  with_reducible rfl
                                rotate_left
                                · simp only [Act.put, List.setIfInBounds_toArray, List.set_cons_zero, List.set_cons_succ, i64_w, i32_w]
                                  rfl
                                refine pure_ (i := 1) (N := some 96) (v := ?_) (a' := ?_) #[true, true, false, false, false, false, false, false] rfl rfl (any_of HT_.out (by kernel_rfl)) (fun _ _ _ h => h) (Or.inl ⟨by rfl, ?_⟩) ?_ ?_
                                rotate_left
                                · intro w'
                                  go_simp
                                  with_reducible rfl
                                rotate_left
                                · simp only [Act.put, List.setIfInBounds_toArray, List.set_cons_zero, List.set_cons_succ, i64_w, i32_w]
                                  rfl
                                refine pure_ (i := 2) (N := some 97) (v := ?_) (a' := ?_) #[true, true, true, false, false, false, false, false] rfl rfl (any_of HT_.out (by kernel_rfl)) (fun _ _ _ h => h) (Or.inl ⟨by rfl, ?_⟩) ?_ ?_
                                rotate_left
                                · intro w'
                                  go_simp
                                  with_reducible rfl
                                rotate_left
                                · simp only [Act.put, List.setIfInBounds_toArray, List.set_cons_zero, List.set_cons_succ, i64_w, i32_w]
                                  rfl
                                refine pure_ (i := 3) (N := some 98) (v := ?_) (a' := ?_) #[true, true, true, true, false, false, false, false] rfl rfl (any_of HT_.out (by kernel_rfl)) (fun _ _ _ h => h) (Or.inl ⟨by rfl, ?_⟩) ?_ ?_
                                rotate_left
                                · intro w'
                                  go_simp
                                  with_reducible rfl
                                rotate_left
                                · simp only [Act.put, List.setIfInBounds_toArray, List.set_cons_zero, List.set_cons_succ, i64_w, i32_w]
                                  rfl
                                refine pure_ (i := 5) (N := some 100) (v := ?_) (a' := ?_) #[true, true, true, true, false, true, false, false] rfl rfl (any_of HT_.out (by kernel_rfl)) (fun _ _ _ h => h) (Or.inl ⟨by rfl, ?_⟩) ?_ ?_
                                rotate_left
                                · intro w'
                                  go_simp
                                  with_reducible rfl
                                rotate_left
                                · simp only [Act.put, List.setIfInBounds_toArray, List.set_cons_zero, List.set_cons_succ, i64_w, i32_w]
                                  rfl
                                refine take_ (i := 4) (N := some 99) (v := ?_) (a' := ?_) #[true, true, true, true, true, true, false, false] rfl rfl (take_ofW HT_.out HW_.out (by kernel_rfl)) (fun _ _ _ h => h) (Or.inl ⟨by rfl, ?_⟩) hHeld ?_ ?_
                                rotate_left
                                · rintro w' ⟨s0, s1, s2, s3, s4, s5, s6, s7⟩
                                  go_simp
                                  with_reducible rfl
                                rotate_left
                                · simp only [Act.put, List.setIfInBounds_toArray, List.set_cons_zero, List.set_cons_succ, i64_w, i32_w]
                                  rfl
                                refine take_ (i := 6) (N := some 101) (v := ?_) (a' := ?_) #[true, true, true, true, true, true, true, false] rfl rfl (take_ofW HT_.out HW_.out (by kernel_rfl)) (fun _ _ _ h => h) (Or.inl ⟨by rfl, ?_⟩) hHeld ?_ ?_
                                rotate_left
                                · rintro w' ⟨s0, s1, s2, s3, s4, s5, s6, s7⟩
                                  go_simp
                                  with_reducible rfl
                                rotate_left
                                · simp only [Act.put, List.setIfInBounds_toArray, List.set_cons_zero, List.set_cons_succ, i64_w, i32_w]
                                  rfl
                                refine pure_ (i := 7) (N := some 102) (v := ?_) (a' := ?_) #[true, true, true, true, true, true, true, true] rfl rfl (any_of HT_.out (by kernel_rfl)) (fun _ _ _ h => h) (Or.inl ⟨by rfl, ?_⟩) ?_ ?_
                                rotate_left
                                · intro w'
                                  go_simp
                                  with_reducible rfl
                                rotate_left
                                · simp only [Act.put, List.setIfInBounds_toArray, List.set_cons_zero, List.set_cons_succ, i64_w, i32_w]
                                  rfl
                                refine done_ (done_of HT_.out (by kernel_rfl)) ?_
                                try go_wp2
                                have n0_ := Aside0.mk (Kd.R_drew HO_5.out)
                                have n1_ := Aside0.mk (Kd.R_drew HO_9.out)
                                have n2_ := Aside0.mk (Kd.R_drew HO_10.out)
                                have n3_ := Aside0.mk (Kd.R_drew HO_11.out)
                                have n4_ := Aside0.mk (blk_drew BK192.out)
                                have n5_ := Aside0.mk (below_drew1 HB.out)
                                clear HO_5
                                clear HO_9
                                clear HO_10
                                clear HO_11
                                clear BK192
                                clear HB
                                have HO_5 := n0_
                                have HO_9 := n1_
                                have HO_10 := n2_
                                have HO_11 := n3_
                                have BK192 := n4_
                                have HB := n5_
                                clear n0_ n1_ n2_ n3_ n4_ n5_
                                have p198 : 0 ≤ (x15_3 : Int) := of_decide_eq_true (by first | (with_reducible assumption) | assumption)
                                have q198 : x15_3 < (t185.length : Int) := of_decide_eq_true (by first | (with_reducible assumption) | assumption)
                                obtain ⟨ad198, e198, hx198_0, hx198_1, hx198_2, hx198_3⟩ := at_T41 (Kd.R_reads' HO_11.out).2.2 x15_3 p198 q198
                                obtain rfl : ad197 = ad198 := (by injection e198)
                                replace p198 := eq_true p198
                                replace q198 := eq_true q198
                                have p199 : 0 ≤ (x15_3 : Int) := of_decide_eq_true (by first | (with_reducible assumption) | assumption)
                                have q199 : x15_3 < (t185.length : Int) := of_decide_eq_true (by first | (with_reducible assumption) | assumption)
                                obtain ⟨ad199, e199, hx199_0, hx199_1, hx199_2, hx199_3⟩ := at_T41 (Kd.R_reads' HO_11.out).2.2 x15_3 p199 q199
                                obtain rfl : ad197 = ad199 := (by injection e199)
                                replace p199 := eq_true p199
                                replace q199 := eq_true q199
                                have p200 : 0 ≤ (x15_3 : Int) := of_decide_eq_true (by first | (with_reducible assumption) | assumption)
                                have q200 : x15_3 < (t185.length : Int) := of_decide_eq_true (by first | (with_reducible assumption) | assumption)
                                obtain ⟨ad200, e200, hx200_0, hx200_1, hx200_2, hx200_3⟩ := at_T41 (Kd.R_reads' HO_11.out).2.2 x15_3 p200 q200
                                obtain rfl : ad197 = ad200 := (by injection e200)
                                replace p200 := eq_true p200
                                replace q200 := eq_true q200
                                refine start_ (n := 30) (S := fun w' => w'.cell? (ad197.add ((x15_3).toNat * 4)) = some (.int .i64 ((rd_T41 t185 x15_3).f0)) ∧ w'.cell? ⟨(ad197.add ((x15_3).toNat * 4)).block, (ad197.add ((x15_3).toNat * 4)).off + 1, none⟩ = some (.int .i64 ((rd_T41 t185 x15_3).f1)) ∧ w'.cell? ⟨(ad197.add ((x15_3).toNat * 4)).block, (ad197.add ((x15_3).toNat * 4)).off + 2, none⟩ = some (.int .i64 ((rd_T41 t185 x15_3).f2)) ∧ w'.cell? ⟨(ad197.add ((x15_3).toNat * 4)).block, (ad197.add ((x15_3).toNat * 4)).off + 3, none⟩ = some (.int .i64 ((rd_T41 t185 x15_3).f3))) (ds := [29]) #[false, false, false, false, false, false, false, false, false, false, false, false, false, false, false, false, false, false, false, false, false, false, false, false, false, false, false, false, false, false] (by kernel_rfl) rfl rfl ⟨hx198_0, hx198_1, hx198_2, hx198_3⟩ (fun hHeld => ?_); refine with_tabW coraclelaw24_AuditParts.tab20 coraclelaw24_AuditParts.bits20 (fun HT_ HW_ => ?_)
                                generalize w46.drew = w47 at HO_5 HO_9 HO_10 HO_11 BK192 HB hx198_0 hx198_1 hx198_2 hx198_3 hx199_0 hx199_1 hx199_2 hx199_3 hx200_0 hx200_1 hx200_2 hx200_3 hHeld ⊢
                                refine pure_ (i := 0) (N := some 103) (v := ?_) (a' := ?_) #[true, false, false, false, false, false, false, false, false, false, false, false, false, false, false, false, false, false, false, false, false, false, false, false, false, false, false, false, false, false] rfl rfl (any_of HT_.out (by kernel_rfl)) (fun _ _ _ h => h) (Or.inl ⟨by rfl, ?_⟩) ?_ ?_
                                rotate_left
                                · intro w'
                                  go_simp
                                  with_reducible rfl
                                rotate_left
                                · simp only [Act.put, List.setIfInBounds_toArray, List.set_cons_zero, List.set_cons_succ, i64_w, i32_w]
                                  rfl
                                refine pure_ (i := 2) (N := some 105) (v := ?_) (a' := ?_) #[true, false, true, false, false, false, false, false, false, false, false, false, false, false, false, false, false, false, false, false, false, false, false, false, false, false, false, false, false, false] rfl rfl (any_of HT_.out (by kernel_rfl)) (fun _ _ _ h => h) (Or.inl ⟨by rfl, ?_⟩) ?_ ?_
                                rotate_left
                                · intro w'
                                  go_simp
                                  with_reducible rfl
                                rotate_left
                                · simp only [Act.put, List.setIfInBounds_toArray, List.set_cons_zero, List.set_cons_succ, i64_w, i32_w]
                                  rfl
                                refine pure_ (i := 3) (N := some 106) (v := ?_) (a' := ?_) #[true, false, true, true, false, false, false, false, false, false, false, false, false, false, false, false, false, false, false, false, false, false, false, false, false, false, false, false, false, false] rfl rfl (any_of HT_.out (by kernel_rfl)) (fun _ _ _ h => h) (Or.inl ⟨by rfl, ?_⟩) ?_ ?_
                                rotate_left
                                · intro w'
                                  go_simp
                                  with_reducible rfl
                                rotate_left
                                · simp only [Act.put, List.setIfInBounds_toArray, List.set_cons_zero, List.set_cons_succ, i64_w, i32_w]
                                  rfl
                                refine pure_ (i := 4) (N := some 107) (v := ?_) (a' := ?_) #[true, false, true, true, true, false, false, false, false, false, false, false, false, false, false, false, false, false, false, false, false, false, false, false, false, false, false, false, false, false] rfl rfl (any_of HT_.out (by kernel_rfl)) (fun _ _ _ h => h) (Or.inl ⟨by rfl, ?_⟩) ?_ ?_
                                rotate_left
                                · intro w'
                                  go_simp
                                  with_reducible rfl
                                rotate_left
                                · simp only [Act.put, List.setIfInBounds_toArray, List.set_cons_zero, List.set_cons_succ, i64_w, i32_w]
                                  rfl
                                refine pure_ (i := 5) (N := some 108) (v := ?_) (a' := ?_) #[true, false, true, true, true, true, false, false, false, false, false, false, false, false, false, false, false, false, false, false, false, false, false, false, false, false, false, false, false, false] rfl rfl (any_of HT_.out (by kernel_rfl)) (fun _ _ _ h => h) (Or.inl ⟨by rfl, ?_⟩) ?_ ?_
                                rotate_left
                                · intro w'
                                  go_simp
                                  with_reducible rfl
                                rotate_left
                                · simp only [Act.put, List.setIfInBounds_toArray, List.set_cons_zero, List.set_cons_succ, i64_w, i32_w]
                                  rfl
                                refine pure_ (i := 8) (N := some 111) (v := ?_) (a' := ?_) #[true, false, true, true, true, true, false, false, true, false, false, false, false, false, false, false, false, false, false, false, false, false, false, false, false, false, false, false, false, false] rfl rfl (any_of HT_.out (by kernel_rfl)) (fun _ _ _ h => h) (Or.inl ⟨by rfl, ?_⟩) ?_ ?_
                                rotate_left
                                · intro w'
                                  go_simp
                                  with_reducible rfl
                                rotate_left
                                · simp only [Act.put, List.setIfInBounds_toArray, List.set_cons_zero, List.set_cons_succ, i64_w, i32_w]
                                  rfl
                                refine pure_ (i := 10) (N := some 113) (v := ?_) (a' := ?_) #[true, false, true, true, true, true, false, false, true, false, true, false, false, false, false, false, false, false, false, false, false, false, false, false, false, false, false, false, false, false] rfl rfl (any_of HT_.out (by kernel_rfl)) (fun _ _ _ h => h) (Or.inl ⟨by rfl, ?_⟩) ?_ ?_
                                rotate_left
                                · intro w'
                                  go_simp
                                  with_reducible rfl
                                rotate_left
                                · simp only [Act.put, List.setIfInBounds_toArray, List.set_cons_zero, List.set_cons_succ, i64_w, i32_w]
                                  rfl
                                refine pure_ (i := 11) (N := some 114) (v := ?_) (a' := ?_) #[true, false, true, true, true, true, false, false, true, false, true, true, false, false, false, false, false, false, false, false, false, false, false, false, false, false, false, false, false, false] rfl rfl (any_of HT_.out (by kernel_rfl)) (fun _ _ _ h => h) (Or.inl ⟨by rfl, ?_⟩) ?_ ?_
                                rotate_left
                                · intro w'
                                  go_simp
                                  with_reducible rfl
                                rotate_left
                                · simp only [Act.put, List.setIfInBounds_toArray, List.set_cons_zero, List.set_cons_succ, i64_w, i32_w]
                                  rfl
                                refine pure_ (i := 12) (N := some 115) (v := ?_) (a' := ?_) #[true, false, true, true, true, true, false, false, true, false, true, true, true, false, false, false, false, false, false, false, false, false, false, false, false, false, false, false, false, false] rfl rfl (any_of HT_.out (by kernel_rfl)) (fun _ _ _ h => h) (Or.inl ⟨by rfl, ?_⟩) ?_ ?_
                                rotate_left
                                · intro w'
                                  go_simp
                                  with_reducible rfl
                                rotate_left
                                · simp only [Act.put, List.setIfInBounds_toArray, List.set_cons_zero, List.set_cons_succ, i64_w, i32_w]
                                  rfl
                                refine pure_ (i := 13) (N := some 116) (v := ?_) (a' := ?_) #[true, false, true, true, true, true, false, false, true, false, true, true, true, true, false, false, false, false, false, false, false, false, false, false, false, false, false, false, false, false] rfl rfl (any_of HT_.out (by kernel_rfl)) (fun _ _ _ h => h) (Or.inl ⟨by rfl, ?_⟩) ?_ ?_
                                rotate_left
                                · intro w'
                                  go_simp
                                  with_reducible rfl
                                rotate_left
                                · simp only [Act.put, List.setIfInBounds_toArray, List.set_cons_zero, List.set_cons_succ, i64_w, i32_w]
                                  rfl
                                refine pure_ (i := 16) (N := some 119) (v := ?_) (a' := ?_) #[true, false, true, true, true, true, false, false, true, false, true, true, true, true, false, false, true, false, false, false, false, false, false, false, false, false, false, false, false, false] rfl rfl (any_of HT_.out (by kernel_rfl)) (fun _ _ _ h => h) (Or.inl ⟨by rfl, ?_⟩) ?_ ?_
                                rotate_left
                                · intro w'
                                  go_simp
                                  with_reducible rfl
                                rotate_left
                                · simp only [Act.put, List.setIfInBounds_toArray, List.set_cons_zero, List.set_cons_succ, i64_w, i32_w]
                                  rfl
                                refine pure_ (i := 18) (N := some 121) (v := ?_) (a' := ?_) #[true, false, true, true, true, true, false, false, true, false, true, true, true, true, false, false, true, false, true, false, false, false, false, false, false, false, false, false, false, false] rfl rfl (any_of HT_.out (by kernel_rfl)) (fun _ _ _ h => h) (Or.inl ⟨by rfl, ?_⟩) ?_ ?_
                                rotate_left
                                · intro w'
                                  go_simp
                                  with_reducible rfl
                                rotate_left
                                · simp only [Act.put, List.setIfInBounds_toArray, List.set_cons_zero, List.set_cons_succ, i64_w, i32_w]
                                  rfl
                                refine pure_ (i := 19) (N := some 122) (v := ?_) (a' := ?_) #[true, false, true, true, true, true, false, false, true, false, true, true, true, true, false, false, true, false, true, true, false, false, false, false, false, false, false, false, false, false] rfl rfl (any_of HT_.out (by kernel_rfl)) (fun _ _ _ h => h) (Or.inl ⟨by rfl, ?_⟩) ?_ ?_
                                rotate_left
                                · intro w'
                                  go_simp
                                  with_reducible rfl
                                rotate_left
                                · simp only [Act.put, List.setIfInBounds_toArray, List.set_cons_zero, List.set_cons_succ, i64_w, i32_w]
                                  rfl
                                refine pure_ (i := 20) (N := some 123) (v := ?_) (a' := ?_) #[true, false, true, true, true, true, false, false, true, false, true, true, true, true, false, false, true, false, true, true, true, false, false, false, false, false, false, false, false, false] rfl rfl (any_of HT_.out (by kernel_rfl)) (fun _ _ _ h => h) (Or.inl ⟨by rfl, ?_⟩) ?_ ?_
                                rotate_left
                                · intro w'
                                  go_simp
                                  with_reducible rfl
                                rotate_left
                                · simp only [Act.put, List.setIfInBounds_toArray, List.set_cons_zero, List.set_cons_succ, i64_w, i32_w]
                                  rfl
                                refine pure_ (i := 21) (N := some 124) (v := ?_) (a' := ?_) #[true, false, true, true, true, true, false, false, true, false, true, true, true, true, false, false, true, false, true, true, true, true, false, false, false, false, false, false, false, false] rfl rfl (any_of HT_.out (by kernel_rfl)) (fun _ _ _ h => h) (Or.inl ⟨by rfl, ?_⟩) ?_ ?_
                                rotate_left
                                · intro w'
                                  go_simp
                                  with_reducible rfl
                                rotate_left
                                · simp only [Act.put, List.setIfInBounds_toArray, List.set_cons_zero, List.set_cons_succ, i64_w, i32_w]
                                  rfl
                                refine take_ (i := 6) (N := some 109) (v := ?_) (a' := ?_) #[true, false, true, true, true, true, true, false, true, false, true, true, true, true, false, false, true, false, true, true, true, true, false, false, false, false, false, false, false, false] rfl rfl (take_ofW HT_.out HW_.out (by kernel_rfl)) (fun _ _ _ h => h) (Or.inl ⟨by rfl, ?_⟩) hHeld ?_ ?_
                                rotate_left
                                · rintro w' ⟨s0, s1, s2, s3⟩
                                  go_simp
                                  with_reducible rfl
                                rotate_left
                                · simp only [Act.put, List.setIfInBounds_toArray, List.set_cons_zero, List.set_cons_succ, i64_w, i32_w]
                                  rfl
                                refine take_ (i := 14) (N := some 117) (v := ?_) (a' := ?_) #[true, false, true, true, true, true, true, false, true, false, true, true, true, true, true, false, true, false, true, true, true, true, false, false, false, false, false, false, false, false] rfl rfl (take_ofW HT_.out HW_.out (by kernel_rfl)) (fun _ _ _ h => h) (Or.inl ⟨by rfl, ?_⟩) hHeld ?_ ?_
                                rotate_left
                                · rintro w' ⟨s0, s1, s2, s3⟩
                                  go_simp
                                  with_reducible rfl
                                rotate_left
                                · simp only [Act.put, List.setIfInBounds_toArray, List.set_cons_zero, List.set_cons_succ, i64_w, i32_w]
                                  rfl
                                refine take_ (i := 22) (N := some 125) (v := ?_) (a' := ?_) #[true, false, true, true, true, true, true, false, true, false, true, true, true, true, true, false, true, false, true, true, true, true, true, false, false, false, false, false, false, false] rfl rfl (take_ofW HT_.out HW_.out (by kernel_rfl)) (fun _ _ _ h => h) (Or.inl ⟨by rfl, ?_⟩) hHeld ?_ ?_
                                rotate_left
                                · rintro w' ⟨s0, s1, s2, s3⟩
                                  go_simp
                                  with_reducible rfl
                                rotate_left
                                · simp only [Act.put, List.setIfInBounds_toArray, List.set_cons_zero, List.set_cons_succ, i64_w, i32_w]
                                  rfl
                                refine join_ (σ := Unit) 6 #[true, true, true, true, true, true, true, true, true, true, true, true, true, true, true, true, true, true, true, true, true, true, true, true, false, false, false, false, false, false] (fun _ => [(104, .int .i64 x193001_3), (112, .int .i64 x193002_3), (120, .int .i64 x193003_3), (110, .int .i64 (wrap64 (x193001_3 - ((rd_T41 t185 x15_3).f1)))), (118, .int .i64 (wrap64 (x193002_3 - ((rd_T41 t185 x15_3).f2)))), (126, .int .i64 (wrap64 (x193003_3 - ((rd_T41 t185 x15_3).f3))))]) (fun _ w' => w' = w47) ?_ ?_
                                rotate_left
                                · intro hCont
                                  refine three_ (i := 1) (j := 9) (k := 17) (Ni := some 104) (Nj := some 112) (Nk := some 120) #[true, true, true, true, true, true, true, false, true, false, true, true, true, true, true, false, true, false, true, true, true, true, true, false, false, false, false, false, false, false] #[true, false, true, true, true, true, true, false, true, true, true, true, true, true, true, false, true, false, true, true, true, true, true, false, false, false, false, false, false, false] #[true, false, true, true, true, true, true, false, true, false, true, true, true, true, true, false, true, true, true, true, true, true, true, false, false, false, false, false, false, false] rfl rfl rfl rfl rfl rfl (three_of HT_.out (by kernel_rfl)) (by decide) (by decide) (by decide) (fun K hK => ?_) (fun K hK => ?_) (fun K hK => ?_)
                                  · skip
                                    have hsn_ : w47.cell? ⟨gb192, 1, none⟩ = some (.int .i64 x193001_3) := (blk_cell BK192.out 1).trans rfl
                                    refine value_ (w1 := ?_) (v := ?_) (by rfl) rfl ?_ ?_
                                    rotate_left 2
                                    · go_simp
                                      constructor
                                      · rfl
                                      · rfl
                                    refine hK.out _ _ ⟨hHeld.1, hHeld.2.1, hHeld.2.2.1, hHeld.2.2.2⟩ (fun hHeld => ?_)
                                    clear hK K
                                    refine norm_ (a' := ?_) ?_ ?_
                                    rotate_left
                                    · show Act.put _ (some 104) _ = _
                                      simp only [Act.put, List.setIfInBounds_toArray, List.set_cons_zero, List.set_cons_succ, i64_w, i32_w]
                                      rfl
                                    refine pure_ (i := 7) (N := some 110) (v := ?_) (a' := ?_) #[true, true, true, true, true, true, true, true, true, false, true, true, true, true, true, false, true, false, true, true, true, true, true, false, false, false, false, false, false, false] rfl rfl (any_of HT_.out (by kernel_rfl)) (fun _ _ _ h => h) (Or.inl ⟨by rfl, ?_⟩) ?_ ?_
                                    rotate_left
                                    · intro w'
                                      go_simp
                                      with_reducible rfl
                                    rotate_left
                                    · simp only [Act.put, List.setIfInBounds_toArray, List.set_cons_zero, List.set_cons_succ, i64_w, i32_w]
                                      rfl
                                    refine two_ (i := 9) (j := 17) (Ni := some 112) (Nj := some 120) #[true, true, true, true, true, true, true, true, true, true, true, true, true, true, true, false, true, false, true, true, true, true, true, false, false, false, false, false, false, false] #[true, true, true, true, true, true, true, true, true, false, true, true, true, true, true, false, true, true, true, true, true, true, true, false, false, false, false, false, false, false] rfl rfl rfl rfl (two_of HT_.out (by kernel_rfl)) (by decide) (by decide) (fun K hK => ?_) (fun K hK => ?_)
                                    · skip
                                      have hsn_ : w47.cell? ⟨gb192, 2, none⟩ = some (.int .i64 x193002_3) := (blk_cell BK192.out 2).trans rfl
                                      refine value_ (w1 := ?_) (v := ?_) (by rfl) rfl ?_ ?_
                                      rotate_left 2
                                      · go_simp
                                        constructor
                                        · rfl
                                        · rfl
                                      refine hK.out _ _ ⟨hHeld.1, hHeld.2.1, hHeld.2.2.1, hHeld.2.2.2⟩ (fun hHeld => ?_)
                                      clear hK K
                                      refine norm_ (a' := ?_) ?_ ?_
                                      rotate_left
                                      · show Act.put _ (some 112) _ = _
                                        simp only [Act.put, List.setIfInBounds_toArray, List.set_cons_zero, List.set_cons_succ, i64_w, i32_w]
                                        rfl
                                      refine pure_ (i := 15) (N := some 118) (v := ?_) (a' := ?_) #[true, true, true, true, true, true, true, true, true, true, true, true, true, true, true, true, true, false, true, true, true, true, true, false, false, false, false, false, false, false] rfl rfl (any_of HT_.out (by kernel_rfl)) (fun _ _ _ h => h) (Or.inl ⟨by rfl, ?_⟩) ?_ ?_
                                      rotate_left
                                      · intro w'
                                        go_simp
                                        with_reducible rfl
                                      rotate_left
                                      · simp only [Act.put, List.setIfInBounds_toArray, List.set_cons_zero, List.set_cons_succ, i64_w, i32_w]
                                        rfl
                                      refine one_ (i := 17) (N := some 120) #[true, true, true, true, true, true, true, true, true, true, true, true, true, true, true, true, true, true, true, true, true, true, true, false, false, false, false, false, false, false] rfl rfl (one_of HT_.out (by kernel_rfl)) (by decide) (fun K hK => ?_)
                                      have hsn_ : w47.cell? ⟨gb192, 3, none⟩ = some (.int .i64 x193003_3) := (blk_cell BK192.out 3).trans rfl
                                      refine value_ (w1 := ?_) (v := ?_) (by rfl) rfl ?_ ?_
                                      rotate_left 2
                                      · go_simp
                                        constructor
                                        · rfl
                                        · rfl
                                      refine hK.out _ _ ⟨hHeld.1, hHeld.2.1, hHeld.2.2.1, hHeld.2.2.2⟩ (fun hHeld => ?_)
                                      clear hK K
                                      refine norm_ (a' := ?_) ?_ ?_
                                      rotate_left
                                      · show Act.put _ (some 120) _ = _
                                        simp only [Act.put, List.setIfInBounds_toArray, List.set_cons_zero, List.set_cons_succ, i64_w, i32_w]
                                        rfl
                                      refine pure_ (i := 23) (N := some 126) (v := ?_) (a' := ?_) #[true, true, true, true, true, true, true, true, true, true, true, true, true, true, true, true, true, true, true, true, true, true, true, true, false, false, false, false, false, false] rfl rfl (any_of HT_.out (by kernel_rfl)) (fun _ _ _ h => h) (Or.inl ⟨by rfl, ?_⟩) ?_ ?_
                                      rotate_left
                                      · intro w'
                                        go_simp
                                        with_reducible rfl
                                      rotate_left
                                      · simp only [Act.put, List.setIfInBounds_toArray, List.set_cons_zero, List.set_cons_succ, i64_w, i32_w]
                                        rfl
                                      exact norm_ (by simp only [putAll, Act.put, List.setIfInBounds_toArray, List.set_cons_zero, List.set_cons_succ]) (hCont () _ rfl)
                                    · skip
                                      have hsn_ : w47.cell? ⟨gb192, 3, none⟩ = some (.int .i64 x193003_3) := (blk_cell BK192.out 3).trans rfl
                                      refine value_ (w1 := ?_) (v := ?_) (by rfl) rfl ?_ ?_
                                      rotate_left 2
                                      · go_simp
                                        constructor
                                        · rfl
                                        · rfl
                                      refine hK.out _ _ ⟨hHeld.1, hHeld.2.1, hHeld.2.2.1, hHeld.2.2.2⟩ (fun hHeld => ?_)
                                      clear hK K
                                      refine norm_ (a' := ?_) ?_ ?_
                                      rotate_left
                                      · show Act.put _ (some 120) _ = _
                                        simp only [Act.put, List.setIfInBounds_toArray, List.set_cons_zero, List.set_cons_succ, i64_w, i32_w]
                                        rfl
                                      refine pure_ (i := 23) (N := some 126) (v := ?_) (a' := ?_) #[true, true, true, true, true, true, true, true, true, false, true, true, true, true, true, false, true, true, true, true, true, true, true, true, false, false, false, false, false, false] rfl rfl (any_of HT_.out (by kernel_rfl)) (fun _ _ _ h => h) (Or.inl ⟨by rfl, ?_⟩) ?_ ?_
                                      rotate_left
                                      · intro w'
                                        go_simp
                                        with_reducible rfl
                                      rotate_left
                                      · simp only [Act.put, List.setIfInBounds_toArray, List.set_cons_zero, List.set_cons_succ, i64_w, i32_w]
                                        rfl
                                      refine one_ (i := 9) (N := some 112) #[true, true, true, true, true, true, true, true, true, true, true, true, true, true, true, false, true, true, true, true, true, true, true, true, false, false, false, false, false, false] rfl rfl (one_of HT_.out (by kernel_rfl)) (by decide) (fun K hK => ?_)
                                      have hsn_ : w47.cell? ⟨gb192, 2, none⟩ = some (.int .i64 x193002_3) := (blk_cell BK192.out 2).trans rfl
                                      refine value_ (w1 := ?_) (v := ?_) (by rfl) rfl ?_ ?_
                                      rotate_left 2
                                      · go_simp
                                        constructor
                                        · rfl
                                        · rfl
                                      refine hK.out _ _ ⟨hHeld.1, hHeld.2.1, hHeld.2.2.1, hHeld.2.2.2⟩ (fun hHeld => ?_)
                                      clear hK K
                                      refine norm_ (a' := ?_) ?_ ?_
                                      rotate_left
                                      · show Act.put _ (some 112) _ = _
                                        simp only [Act.put, List.setIfInBounds_toArray, List.set_cons_zero, List.set_cons_succ, i64_w, i32_w]
                                        rfl
                                      refine pure_ (i := 15) (N := some 118) (v := ?_) (a' := ?_) #[true, true, true, true, true, true, true, true, true, true, true, true, true, true, true, true, true, true, true, true, true, true, true, true, false, false, false, false, false, false] rfl rfl (any_of HT_.out (by kernel_rfl)) (fun _ _ _ h => h) (Or.inl ⟨by rfl, ?_⟩) ?_ ?_
                                      rotate_left
                                      · intro w'
                                        go_simp
                                        with_reducible rfl
                                      rotate_left
                                      · simp only [Act.put, List.setIfInBounds_toArray, List.set_cons_zero, List.set_cons_succ, i64_w, i32_w]
                                        rfl
                                      exact norm_ (by simp only [putAll, Act.put, List.setIfInBounds_toArray, List.set_cons_zero, List.set_cons_succ]) (hCont () _ rfl)
                                  · skip
                                    have hsn_ : w47.cell? ⟨gb192, 2, none⟩ = some (.int .i64 x193002_3) := (blk_cell BK192.out 2).trans rfl
                                    refine value_ (w1 := ?_) (v := ?_) (by rfl) rfl ?_ ?_
                                    rotate_left 2
                                    · go_simp
                                      constructor
                                      · rfl
                                      · rfl
                                    refine hK.out _ _ ⟨hHeld.1, hHeld.2.1, hHeld.2.2.1, hHeld.2.2.2⟩ (fun hHeld => ?_)
                                    clear hK K
                                    refine norm_ (a' := ?_) ?_ ?_
                                    rotate_left
                                    · show Act.put _ (some 112) _ = _
                                      simp only [Act.put, List.setIfInBounds_toArray, List.set_cons_zero, List.set_cons_succ, i64_w, i32_w]
                                      rfl
                                    refine pure_ (i := 15) (N := some 118) (v := ?_) (a' := ?_) #[true, false, true, true, true, true, true, false, true, true, true, true, true, true, true, true, true, false, true, true, true, true, true, false, false, false, false, false, false, false] rfl rfl (any_of HT_.out (by kernel_rfl)) (fun _ _ _ h => h) (Or.inl ⟨by rfl, ?_⟩) ?_ ?_
                                    rotate_left
                                    · intro w'
                                      go_simp
                                      with_reducible rfl
                                    rotate_left
                                    · simp only [Act.put, List.setIfInBounds_toArray, List.set_cons_zero, List.set_cons_succ, i64_w, i32_w]
                                      rfl
                                    refine two_ (i := 1) (j := 17) (Ni := some 104) (Nj := some 120) #[true, true, true, true, true, true, true, false, true, true, true, true, true, true, true, true, true, false, true, true, true, true, true, false, false, false, false, false, false, false] #[true, false, true, true, true, true, true, false, true, true, true, true, true, true, true, true, true, true, true, true, true, true, true, false, false, false, false, false, false, false] rfl rfl rfl rfl (two_of HT_.out (by kernel_rfl)) (by decide) (by decide) (fun K hK => ?_) (fun K hK => ?_)
                                    · skip
                                      have hsn_ : w47.cell? ⟨gb192, 1, none⟩ = some (.int .i64 x193001_3) := (blk_cell BK192.out 1).trans rfl
                                      refine value_ (w1 := ?_) (v := ?_) (by rfl) rfl ?_ ?_
                                      rotate_left 2
                                      · go_simp
                                        constructor
                                        · rfl
                                        · rfl
                                      refine hK.out _ _ ⟨hHeld.1, hHeld.2.1, hHeld.2.2.1, hHeld.2.2.2⟩ (fun hHeld => ?_)
                                      clear hK K
                                      refine norm_ (a' := ?_) ?_ ?_
                                      rotate_left
                                      · show Act.put _ (some 104) _ = _
                                        simp only [Act.put, List.setIfInBounds_toArray, List.set_cons_zero, List.set_cons_succ, i64_w, i32_w]
                                        rfl
                                      refine pure_ (i := 7) (N := some 110) (v := ?_) (a' := ?_) #[true, true, true, true, true, true, true, true, true, true, true, true, true, true, true, true, true, false, true, true, true, true, true, false, false, false, false, false, false, false] rfl rfl (any_of HT_.out (by kernel_rfl)) (fun _ _ _ h => h) (Or.inl ⟨by rfl, ?_⟩) ?_ ?_
                                      rotate_left
                                      · intro w'
                                        go_simp
                                        with_reducible rfl
                                      rotate_left
                                      · simp only [Act.put, List.setIfInBounds_toArray, List.set_cons_zero, List.set_cons_succ, i64_w, i32_w]
                                        rfl
                                      refine one_ (i := 17) (N := some 120) #[true, true, true, true, true, true, true, true, true, true, true, true, true, true, true, true, true, true, true, true, true, true, true, false, false, false, false, false, false, false] rfl rfl (one_of HT_.out (by kernel_rfl)) (by decide) (fun K hK => ?_)
                                      have hsn_ : w47.cell? ⟨gb192, 3, none⟩ = some (.int .i64 x193003_3) := (blk_cell BK192.out 3).trans rfl
                                      refine value_ (w1 := ?_) (v := ?_) (by rfl) rfl ?_ ?_
                                      rotate_left 2
                                      · go_simp
                                        constructor
                                        · rfl
                                        · rfl
                                      refine hK.out _ _ ⟨hHeld.1, hHeld.2.1, hHeld.2.2.1, hHeld.2.2.2⟩ (fun hHeld => ?_)
                                      clear hK K
                                      refine norm_ (a' := ?_) ?_ ?_
                                      rotate_left
                                      · show Act.put _ (some 120) _ = _
                                        simp only [Act.put, List.setIfInBounds_toArray, List.set_cons_zero, List.set_cons_succ, i64_w, i32_w]
                                        rfl
                                      refine pure_ (i := 23) (N := some 126) (v := ?_) (a' := ?_) #[true, true, true, true, true, true, true, true, true, true, true, true, true, true, true, true, true, true, true, true, true, true, true, true, false, false, false, false, false, false] rfl rfl (any_of HT_.out (by kernel_rfl)) (fun _ _ _ h => h) (Or.inl ⟨by rfl, ?_⟩) ?_ ?_
                                      rotate_left
                                      · intro w'
                                        go_simp
                                        with_reducible rfl
                                      rotate_left
                                      · simp only [Act.put, List.setIfInBounds_toArray, List.set_cons_zero, List.set_cons_succ, i64_w, i32_w]
                                        rfl
                                      exact norm_ (by simp only [putAll, Act.put, List.setIfInBounds_toArray, List.set_cons_zero, List.set_cons_succ]) (hCont () _ rfl)
                                    · skip
                                      have hsn_ : w47.cell? ⟨gb192, 3, none⟩ = some (.int .i64 x193003_3) := (blk_cell BK192.out 3).trans rfl
                                      refine value_ (w1 := ?_) (v := ?_) (by rfl) rfl ?_ ?_
                                      rotate_left 2
                                      · go_simp
                                        constructor
                                        · rfl
                                        · rfl
                                      refine hK.out _ _ ⟨hHeld.1, hHeld.2.1, hHeld.2.2.1, hHeld.2.2.2⟩ (fun hHeld => ?_)
                                      clear hK K
                                      refine norm_ (a' := ?_) ?_ ?_
                                      rotate_left
                                      · show Act.put _ (some 120) _ = _
                                        simp only [Act.put, List.setIfInBounds_toArray, List.set_cons_zero, List.set_cons_succ, i64_w, i32_w]
                                        rfl
                                      refine pure_ (i := 23) (N := some 126) (v := ?_) (a' := ?_) #[true, false, true, true, true, true, true, false, true, true, true, true, true, true, true, true, true, true, true, true, true, true, true, true, false, false, false, false, false, false] rfl rfl (any_of HT_.out (by kernel_rfl)) (fun _ _ _ h => h) (Or.inl ⟨by rfl, ?_⟩) ?_ ?_
                                      rotate_left
                                      · intro w'
                                        go_simp
                                        with_reducible rfl
                                      rotate_left
                                      · simp only [Act.put, List.setIfInBounds_toArray, List.set_cons_zero, List.set_cons_succ, i64_w, i32_w]
                                        rfl
                                      refine one_ (i := 1) (N := some 104) #[true, true, true, true, true, true, true, false, true, true, true, true, true, true, true, true, true, true, true, true, true, true, true, true, false, false, false, false, false, false] rfl rfl (one_of HT_.out (by kernel_rfl)) (by decide) (fun K hK => ?_)
                                      have hsn_ : w47.cell? ⟨gb192, 1, none⟩ = some (.int .i64 x193001_3) := (blk_cell BK192.out 1).trans rfl
                                      refine value_ (w1 := ?_) (v := ?_) (by rfl) rfl ?_ ?_
                                      rotate_left 2
                                      · go_simp
                                        constructor
                                        · rfl
                                        · rfl
                                      refine hK.out _ _ ⟨hHeld.1, hHeld.2.1, hHeld.2.2.1, hHeld.2.2.2⟩ (fun hHeld => ?_)
                                      clear hK K
                                      refine norm_ (a' := ?_) ?_ ?_
                                      rotate_left
                                      · show Act.put _ (some 104) _ = _
                                        simp only [Act.put, List.setIfInBounds_toArray, List.set_cons_zero, List.set_cons_succ, i64_w, i32_w]
                                        rfl
                                      refine pure_ (i := 7) (N := some 110) (v := ?_) (a' := ?_) #[true, true, true, true, true, true, true, true, true, true, true, true, true, true, true, true, true, true, true, true, true, true, true, true, false, false, false, false, false, false] rfl rfl (any_of HT_.out (by kernel_rfl)) (fun _ _ _ h => h) (Or.inl ⟨by rfl, ?_⟩) ?_ ?_
                                      rotate_left
                                      · intro w'
                                        go_simp
                                        with_reducible rfl
                                      rotate_left
                                      · simp only [Act.put, List.setIfInBounds_toArray, List.set_cons_zero, List.set_cons_succ, i64_w, i32_w]
                                        rfl
                                      exact norm_ (by simp only [putAll, Act.put, List.setIfInBounds_toArray, List.set_cons_zero, List.set_cons_succ]) (hCont () _ rfl)
                                  · skip
                                    have hsn_ : w47.cell? ⟨gb192, 3, none⟩ = some (.int .i64 x193003_3) := (blk_cell BK192.out 3).trans rfl
                                    refine value_ (w1 := ?_) (v := ?_) (by rfl) rfl ?_ ?_
                                    rotate_left 2
                                    · go_simp
                                      constructor
                                      · rfl
                                      · rfl
                                    refine hK.out _ _ ⟨hHeld.1, hHeld.2.1, hHeld.2.2.1, hHeld.2.2.2⟩ (fun hHeld => ?_)
                                    clear hK K
                                    refine norm_ (a' := ?_) ?_ ?_
                                    rotate_left
                                    · show Act.put _ (some 120) _ = _
                                      simp only [Act.put, List.setIfInBounds_toArray, List.set_cons_zero, List.set_cons_succ, i64_w, i32_w]
                                      rfl
                                    refine pure_ (i := 23) (N := some 126) (v := ?_) (a' := ?_) #[true, false, true, true, true, true, true, false, true, false, true, true, true, true, true, false, true, true, true, true, true, true, true, true, false, false, false, false, false, false] rfl rfl (any_of HT_.out (by kernel_rfl)) (fun _ _ _ h => h) (Or.inl ⟨by rfl, ?_⟩) ?_ ?_
                                    rotate_left
                                    · intro w'
                                      go_simp
                                      with_reducible rfl
                                    rotate_left
                                    · simp only [Act.put, List.setIfInBounds_toArray, List.set_cons_zero, List.set_cons_succ, i64_w, i32_w]
                                      rfl
                                    refine two_ (i := 1) (j := 9) (Ni := some 104) (Nj := some 112) #[true, true, true, true, true, true, true, false, true, false, true, true, true, true, true, false, true, true, true, true, true, true, true, true, false, false, false, false, false, false] #[true, false, true, true, true, true, true, false, true, true, true, true, true, true, true, false, true, true, true, true, true, true, true, true, false, false, false, false, false, false] rfl rfl rfl rfl (two_of HT_.out (by kernel_rfl)) (by decide) (by decide) (fun K hK => ?_) (fun K hK => ?_)
                                    · skip
                                      have hsn_ : w47.cell? ⟨gb192, 1, none⟩ = some (.int .i64 x193001_3) := (blk_cell BK192.out 1).trans rfl
                                      refine value_ (w1 := ?_) (v := ?_) (by rfl) rfl ?_ ?_
                                      rotate_left 2
                                      · go_simp
                                        constructor
                                        · rfl
                                        · rfl
                                      refine hK.out _ _ ⟨hHeld.1, hHeld.2.1, hHeld.2.2.1, hHeld.2.2.2⟩ (fun hHeld => ?_)
                                      clear hK K
                                      refine norm_ (a' := ?_) ?_ ?_
                                      rotate_left
                                      · show Act.put _ (some 104) _ = _
                                        simp only [Act.put, List.setIfInBounds_toArray, List.set_cons_zero, List.set_cons_succ, i64_w, i32_w]
                                        rfl
                                      refine pure_ (i := 7) (N := some 110) (v := ?_) (a' := ?_) #[true, true, true, true, true, true, true, true, true, false, true, true, true, true, true, false, true, true, true, true, true, true, true, true, false, false, false, false, false, false] rfl rfl (any_of HT_.out (by kernel_rfl)) (fun _ _ _ h => h) (Or.inl ⟨by rfl, ?_⟩) ?_ ?_
                                      rotate_left
                                      · intro w'
                                        go_simp
                                        with_reducible rfl
                                      rotate_left
                                      · simp only [Act.put, List.setIfInBounds_toArray, List.set_cons_zero, List.set_cons_succ, i64_w, i32_w]
                                        rfl
                                      refine one_ (i := 9) (N := some 112) #[true, true, true, true, true, true, true, true, true, true, true, true, true, true, true, false, true, true, true, true, true, true, true, true, false, false, false, false, false, false] rfl rfl (one_of HT_.out (by kernel_rfl)) (by decide) (fun K hK => ?_)
                                      have hsn_ : w47.cell? ⟨gb192, 2, none⟩ = some (.int .i64 x193002_3) := (blk_cell BK192.out 2).trans rfl
                                      refine value_ (w1 := ?_) (v := ?_) (by rfl) rfl ?_ ?_
                                      rotate_left 2
                                      · go_simp
                                        constructor
                                        · rfl
                                        · rfl
                                      refine hK.out _ _ ⟨hHeld.1, hHeld.2.1, hHeld.2.2.1, hHeld.2.2.2⟩ (fun hHeld => ?_)
                                      clear hK K
                                      refine norm_ (a' := ?_) ?_ ?_
                                      rotate_left
                                      · show Act.put _ (some 112) _ = _
                                        simp only [Act.put, List.setIfInBounds_toArray, List.set_cons_zero, List.set_cons_succ, i64_w, i32_w]
                                        rfl
                                      refine pure_ (i := 15) (N := some 118) (v := ?_) (a' := ?_) #[true, true, true, true, true, true, true, true, true, true, true, true, true, true, true, true, true, true, true, true, true, true, true, true, false, false, false, false, false, false] rfl rfl (any_of HT_.out (by kernel_rfl)) (fun _ _ _ h => h) (Or.inl ⟨by rfl, ?_⟩) ?_ ?_
                                      rotate_left
                                      · intro w'
                                        go_simp
                                        with_reducible rfl
                                      rotate_left
                                      · simp only [Act.put, List.setIfInBounds_toArray, List.set_cons_zero, List.set_cons_succ, i64_w, i32_w]
                                        rfl
                                      exact norm_ (by simp only [putAll, Act.put, List.setIfInBounds_toArray, List.set_cons_zero, List.set_cons_succ]) (hCont () _ rfl)
                                    · skip
                                      have hsn_ : w47.cell? ⟨gb192, 2, none⟩ = some (.int .i64 x193002_3) := (blk_cell BK192.out 2).trans rfl
                                      refine value_ (w1 := ?_) (v := ?_) (by rfl) rfl ?_ ?_
                                      rotate_left 2
                                      · go_simp
                                        constructor
                                        · rfl
                                        · rfl
                                      refine hK.out _ _ ⟨hHeld.1, hHeld.2.1, hHeld.2.2.1, hHeld.2.2.2⟩ (fun hHeld => ?_)
                                      clear hK K
                                      refine norm_ (a' := ?_) ?_ ?_
                                      rotate_left
                                      · show Act.put _ (some 112) _ = _
                                        simp only [Act.put, List.setIfInBounds_toArray, List.set_cons_zero, List.set_cons_succ, i64_w, i32_w]
                                        rfl
                                      refine pure_ (i := 15) (N := some 118) (v := ?_) (a' := ?_) #[true, false, true, true, true, true, true, false, true, true, true, true, true, true, true, true, true, true, true, true, true, true, true, true, false, false, false, false, false, false] rfl rfl (any_of HT_.out (by kernel_rfl)) (fun _ _ _ h => h) (Or.inl ⟨by rfl, ?_⟩) ?_ ?_
                                      rotate_left
                                      · intro w'
                                        go_simp
                                        with_reducible rfl
                                      rotate_left
                                      · simp only [Act.put, List.setIfInBounds_toArray, List.set_cons_zero, List.set_cons_succ, i64_w, i32_w]
                                        rfl
                                      refine one_ (i := 1) (N := some 104) #[true, true, true, true, true, true, true, false, true, true, true, true, true, true, true, true, true, true, true, true, true, true, true, true, false, false, false, false, false, false] rfl rfl (one_of HT_.out (by kernel_rfl)) (by decide) (fun K hK => ?_)
                                      have hsn_ : w47.cell? ⟨gb192, 1, none⟩ = some (.int .i64 x193001_3) := (blk_cell BK192.out 1).trans rfl
                                      refine value_ (w1 := ?_) (v := ?_) (by rfl) rfl ?_ ?_
                                      rotate_left 2
                                      · go_simp
                                        constructor
                                        · rfl
                                        · rfl
                                      refine hK.out _ _ ⟨hHeld.1, hHeld.2.1, hHeld.2.2.1, hHeld.2.2.2⟩ (fun hHeld => ?_)
                                      clear hK K
                                      refine norm_ (a' := ?_) ?_ ?_
                                      rotate_left
                                      · show Act.put _ (some 104) _ = _
                                        simp only [Act.put, List.setIfInBounds_toArray, List.set_cons_zero, List.set_cons_succ, i64_w, i32_w]
                                        rfl
                                      refine pure_ (i := 7) (N := some 110) (v := ?_) (a' := ?_) #[true, true, true, true, true, true, true, true, true, true, true, true, true, true, true, true, true, true, true, true, true, true, true, true, false, false, false, false, false, false] rfl rfl (any_of HT_.out (by kernel_rfl)) (fun _ _ _ h => h) (Or.inl ⟨by rfl, ?_⟩) ?_ ?_
                                      rotate_left
                                      · intro w'
                                        go_simp
                                        with_reducible rfl
                                      rotate_left
                                      · simp only [Act.put, List.setIfInBounds_toArray, List.set_cons_zero, List.set_cons_succ, i64_w, i32_w]
                                        rfl
                                      exact norm_ (by simp only [putAll, Act.put, List.setIfInBounds_toArray, List.set_cons_zero, List.set_cons_succ]) (hCont () _ rfl)
                                intro _ wz_ hWz_
                                subst wz_
                                refine norm_ (a' := ?_) ?_ ?_
                                rotate_left
                                · simp only [putAll, Act.put, List.setIfInBounds_toArray, List.set_cons_zero, List.set_cons_succ]
                                  rfl
                                refine pure_ (i := 24) (N := some 127) (v := ?_) (a' := ?_) #[true, true, true, true, true, true, true, true, true, true, true, true, true, true, true, true, true, true, true, true, true, true, true, true, true, false, false, false, false, false] rfl rfl (any_of HT_.out (by kernel_rfl)) (fun _ _ _ h => h) (Or.inl ⟨by rfl, ?_⟩) ?_ ?_
                                rotate_left
                                · intro w'
                                  go_simp
                                  with_reducible rfl
                                rotate_left
                                · simp only [Act.put, List.setIfInBounds_toArray, List.set_cons_zero, List.set_cons_succ, i64_w, i32_w]
                                  rfl
                                refine one_ (i := 25) (N := none) #[true, true, true, true, true, true, true, true, true, true, true, true, true, true, true, true, true, true, true, true, true, true, true, true, true, true, false, false, false, false] rfl rfl (one_of HT_.out (by kernel_rfl)) (by decide) (fun K hK => ?_)
                                have hQ_ := (‹Aside0 (Kd.R _ _ w47 _ _ (.slice (some ad197) _ _) _)›).out
                                have hSW_ : (ad197.add ((x15_3).toNat * 4)).block ≠ gb192 := by rw [add_block]; intro e_; exact Kd.R_away hQ_ (fun k_ hk_ => by first | exact hk_ | exact hk_.2 | exact hk_.2.2 | exact hk_.2.2.2 | exact hk_.1 | exact hk_.2.1) (by simp [Value.ownBlock, e_])
                                have hs48 : w47.cell? ⟨gb192, 1, none⟩ = some (.int .i64 x193001_3) := (blk_cell BK192.out 1).trans rfl
                                have hfs48 := blk_frozen BK192.out 1
                                refine skip_ (w1 := ?_) (by rfl) rfl ?_ ?_
                                rotate_left
                                · go_simp
                                  rfl
                                refine hK.out _ _ ⟨(cell_far (p := ⟨gb192, 1, none⟩) (a := (ad197.add ((x15_3).toNat * 4))) hSW_ _).trans hHeld.1, (cell_far (p := ⟨gb192, 1, none⟩) (a := ⟨(ad197.add ((x15_3).toNat * 4)).block, (ad197.add ((x15_3).toNat * 4)).off + 1, none⟩) hSW_ _).trans hHeld.2.1, (cell_far (p := ⟨gb192, 1, none⟩) (a := ⟨(ad197.add ((x15_3).toNat * 4)).block, (ad197.add ((x15_3).toNat * 4)).off + 2, none⟩) hSW_ _).trans hHeld.2.2.1, (cell_far (p := ⟨gb192, 1, none⟩) (a := ⟨(ad197.add ((x15_3).toNat * 4)).block, (ad197.add ((x15_3).toNat * 4)).off + 3, none⟩) hSW_ _).trans hHeld.2.2.2⟩ (fun hHeld => ?_)
                                clear hK K
                                refine pure_ (i := 26) (N := some 128) (v := ?_) (a' := ?_) #[true, true, true, true, true, true, true, true, true, true, true, true, true, true, true, true, true, true, true, true, true, true, true, true, true, true, true, false, false, false] rfl rfl (any_of HT_.out (by kernel_rfl)) (fun _ _ _ h => h) (Or.inl ⟨by rfl, ?_⟩) ?_ ?_
                                rotate_left
                                · intro w'
                                  go_simp
                                  with_reducible rfl
                                rotate_left
                                · simp only [Act.put, List.setIfInBounds_toArray, List.set_cons_zero, List.set_cons_succ, i64_w, i32_w]
                                  rfl
                                refine one_ (i := 27) (N := none) #[true, true, true, true, true, true, true, true, true, true, true, true, true, true, true, true, true, true, true, true, true, true, true, true, true, true, true, true, false, false] rfl rfl (one_of HT_.out (by kernel_rfl)) (by decide) (fun K hK => ?_)
                                have hs49 : w47.cell? ⟨gb192, 2, none⟩ = some (.int .i64 x193002_3) := (blk_cell BK192.out 2).trans rfl
                                have hfs49 := blk_frozen BK192.out 2
                                refine skip_ (w1 := ?_) (by rfl) rfl ?_ ?_
                                rotate_left
                                · go_simp
                                  rfl
                                refine hK.out _ _ ⟨(cell_far (p := ⟨gb192, 2, none⟩) (a := (ad197.add ((x15_3).toNat * 4))) hSW_ _).trans hHeld.1, (cell_far (p := ⟨gb192, 2, none⟩) (a := ⟨(ad197.add ((x15_3).toNat * 4)).block, (ad197.add ((x15_3).toNat * 4)).off + 1, none⟩) hSW_ _).trans hHeld.2.1, (cell_far (p := ⟨gb192, 2, none⟩) (a := ⟨(ad197.add ((x15_3).toNat * 4)).block, (ad197.add ((x15_3).toNat * 4)).off + 2, none⟩) hSW_ _).trans hHeld.2.2.1, (cell_far (p := ⟨gb192, 2, none⟩) (a := ⟨(ad197.add ((x15_3).toNat * 4)).block, (ad197.add ((x15_3).toNat * 4)).off + 3, none⟩) hSW_ _).trans hHeld.2.2.2⟩ (fun hHeld => ?_)
                                clear hK K
                                refine pure_ (i := 28) (N := some 129) (v := ?_) (a' := ?_) #[true, true, true, true, true, true, true, true, true, true, true, true, true, true, true, true, true, true, true, true, true, true, true, true, true, true, true, true, true, false] rfl rfl (any_of HT_.out (by kernel_rfl)) (fun _ _ _ h => h) (Or.inl ⟨by rfl, ?_⟩) ?_ ?_
                                rotate_left
                                · intro w'
                                  go_simp
                                  with_reducible rfl
                                rotate_left
                                · simp only [Act.put, List.setIfInBounds_toArray, List.set_cons_zero, List.set_cons_succ, i64_w, i32_w]
                                  rfl
                                refine last_ (i := 29) (N := none) #[true, true, true, true, true, true, true, true, true, true, true, true, true, true, true, true, true, true, true, true, true, true, true, true, true, true, true, true, true, true] rfl rfl (one_of HT_.out (by kernel_rfl)) (by decide) (fun K hK => ?_)
                                have hs50 : w47.cell? ⟨gb192, 3, none⟩ = some (.int .i64 x193003_3) := (blk_cell BK192.out 3).trans rfl
                                have hfs50 := blk_frozen BK192.out 3
                                refine skip_ (w1 := ?_) (by rfl) rfl ?_ ?_
                                rotate_left
                                · go_simp
                                  rfl
                                refine hK.out _ _ ?_
                                clear hK K
                                refine done_ (done_of HT_.out (by kernel_rfl)) ?_
                                try go_wp2
                                go_roundg k3
                                case measure => have := HK1.out; have := HK2.out; have := HK3.out; omega
                                case rel => exact ⟨(wrap64 (x15_3 + 1)), (wrap64 (x193001_3 - ((rd_T41 t185 x15_3).f1))), (wrap64 (x193002_3 - ((rd_T41 t185 x15_3).f2))), (wrap64 (x193003_3 - ((rd_T41 t185 x15_3).f3))), (by first | rfl | (simp; done) | (simp [*]; done)), H', ⟨by have := HK1.out; have := HK2.out; have := HK3.out; omega⟩, ⟨by (with_reducible repeat (first | apply Kd.R_alloc | apply Kd.R_drewN | apply Kd.R_drew)); exact Kd.R_mono (Kd.R_far (p := ⟨gb192, 3, none⟩) (Kd.R_far (p := ⟨gb192, 2, none⟩) (Kd.R_far (p := ⟨gb192, 1, none⟩) (Kd.R_types HO_5.out BK192.out (by decide)) (fun _ hk => hk.2) (.int .i64 (wrap64 (x193001_3 - ((rd_T41 t185 x15_3).f1))))) (fun _ hk => hk.2) (.int .i64 (wrap64 (x193002_3 - ((rd_T41 t185 x15_3).f2))))) (fun _ hk => hk.2) (.int .i64 (wrap64 (x193003_3 - ((rd_T41 t185 x15_3).f3))))) (fun _ hk => trivial)⟩, ⟨by (with_reducible repeat (first | apply Kd.R_alloc | apply Kd.R_drewN | apply Kd.R_drew)); exact Kd.R_mono (Kd.R_far (p := ⟨gb192, 3, none⟩) (Kd.R_far (p := ⟨gb192, 2, none⟩) (Kd.R_far (p := ⟨gb192, 1, none⟩) (Kd.R_mono HO_9.out (fun k_ hk => (⟨hk, hk.2.2⟩ : _ ∧ k_ ≠ gb192))) (fun _ hk => hk.2) (.int .i64 (wrap64 (x193001_3 - ((rd_T41 t185 x15_3).f1))))) (fun _ hk => hk.2) (.int .i64 (wrap64 (x193002_3 - ((rd_T41 t185 x15_3).f2))))) (fun _ hk => hk.2) (.int .i64 (wrap64 (x193003_3 - ((rd_T41 t185 x15_3).f3))))) (fun _ hk => ⟨hk.1.1, ⟨hk.1.2.1, hk.1.2.2⟩⟩)⟩, ⟨by (with_reducible repeat (first | apply Kd.R_alloc | apply Kd.R_drewN | apply Kd.R_drew)); exact Kd.R_mono (Kd.R_far (p := ⟨gb192, 3, none⟩) (Kd.R_far (p := ⟨gb192, 2, none⟩) (Kd.R_far (p := ⟨gb192, 1, none⟩) (Kd.R_mono HO_10.out (fun k_ hk => (⟨hk, hk.2.2⟩ : _ ∧ k_ ≠ gb192))) (fun _ hk => hk.2) (.int .i64 (wrap64 (x193001_3 - ((rd_T41 t185 x15_3).f1))))) (fun _ hk => hk.2) (.int .i64 (wrap64 (x193002_3 - ((rd_T41 t185 x15_3).f2))))) (fun _ hk => hk.2) (.int .i64 (wrap64 (x193003_3 - ((rd_T41 t185 x15_3).f3))))) (fun _ hk => ⟨hk.1.1, ⟨hk.1.2.1, hk.1.2.2⟩⟩)⟩, ⟨by (with_reducible repeat (first | apply Kd.R_alloc | apply Kd.R_drewN | apply Kd.R_drew)); exact Kd.R_mono (Kd.R_far (p := ⟨gb192, 3, none⟩) (Kd.R_far (p := ⟨gb192, 2, none⟩) (Kd.R_far (p := ⟨gb192, 1, none⟩) (Kd.R_mono HO_11.out (fun k_ hk => (⟨hk, hk.2.2⟩ : _ ∧ k_ ≠ gb192))) (fun _ hk => hk.2) (.int .i64 (wrap64 (x193001_3 - ((rd_T41 t185 x15_3).f1))))) (fun _ hk => hk.2) (.int .i64 (wrap64 (x193002_3 - ((rd_T41 t185 x15_3).f2))))) (fun _ hk => hk.2) (.int .i64 (wrap64 (x193003_3 - ((rd_T41 t185 x15_3).f3))))) (fun _ hk => ⟨hk.1.1, ⟨hk.1.2.1, hk.1.2.2⟩⟩)⟩, ⟨by (with_reducible repeat (first | refine blk_drewN ?_ _ | refine blk_drew ?_ | refine blk_alloc ?_ _)); refine blk_put (cs := #[.int .i64 ((rd_T41 t179 x12_1).f0), .int .i64 (wrap64 (x193001_3 - ((rd_T41 t185 x15_3).f1))), .int .i64 (wrap64 (x193002_3 - ((rd_T41 t185 x15_3).f2))), .int .i64 x193003_3]) ?_ 3 _ rfl; (with_reducible repeat (first | refine blk_drewN ?_ _ | refine blk_drew ?_ | refine blk_alloc ?_ _)); refine blk_put (cs := #[.int .i64 ((rd_T41 t179 x12_1).f0), .int .i64 (wrap64 (x193001_3 - ((rd_T41 t185 x15_3).f1))), .int .i64 x193002_3, .int .i64 x193003_3]) ?_ 2 _ rfl; (with_reducible repeat (first | refine blk_drewN ?_ _ | refine blk_drew ?_ | refine blk_alloc ?_ _)); refine blk_put (cs := #[.int .i64 ((rd_T41 t179 x12_1).f0), .int .i64 x193001_3, .int .i64 x193002_3, .int .i64 x193003_3]) ?_ 1 _ rfl; (with_reducible repeat (first | refine blk_drewN ?_ _ | refine blk_drew ?_ | refine blk_alloc ?_ _)); exact BK192.out⟩, ⟨by repeat (first | (with_reducible first | exact HB.out | apply below_alloc | apply pw_below_drewN | apply below_drew1 | refine below_set ?_ GE192.out) | exact HB.out)⟩⟩
                              · rw [if_neg c44] at H
                                have c44b0 : (((rd_T41 t185 x15_3).f0) == ((rd_T41 t179 x12_1).f0)) = false := beq_eq_false_iff_ne.mpr c44
                                have c44b1 : (((rd_T41 t185 x15_3).f0) != ((rd_T41 t179 x12_1).f0)) = true := bne_iff_ne.mpr c44
                                have H' := Aside0.mk H
                                clear H
                                obtain ⟨Ao51, co51, eo51⟩ := Kd.R_slice HO_11.out
                                subst eo51
                                try go_wp2
                                have n0_ := Aside0.mk (Kd.R_drew HO_5.out)
                                have n1_ := Aside0.mk (Kd.R_drew HO_9.out)
                                have n2_ := Aside0.mk (Kd.R_drew HO_10.out)
                                have n3_ := Aside0.mk (Kd.R_drew HO_11.out)
                                have n4_ := Aside0.mk (blk_drew BK192.out)
                                have n5_ := Aside0.mk (below_drew1 HB.out)
                                clear HO_5
                                clear HO_9
                                clear HO_10
                                clear HO_11
                                clear BK192
                                clear HB
                                have HO_5 := n0_
                                have HO_9 := n1_
                                have HO_10 := n2_
                                have HO_11 := n3_
                                have BK192 := n4_
                                have HB := n5_
                                clear n0_ n1_ n2_ n3_ n4_ n5_
                                have p197 : 0 ≤ (x15_3 : Int) := of_decide_eq_true (by first | (with_reducible assumption) | assumption)
                                have q197 : x15_3 < (t185.length : Int) := of_decide_eq_true (by first | (with_reducible assumption) | assumption)
                                obtain ⟨ad197, e197, hx197_0, hx197_1, hx197_2, hx197_3⟩ := at_T41 (Kd.R_reads' HO_11.out).2.2 x15_3 p197 q197
                                cases e197
                                replace p197 := eq_true p197
                                replace q197 := eq_true q197
                                refine start_ (n := 8) (S := fun w' => w'.cell? ⟨gb192, 0, none⟩ = some (.int .i64 ((rd_T41 t179 x12_1).f0)) ∧ w'.cell? ⟨gb192, 1, none⟩ = some (.int .i64 x193001_3) ∧ w'.cell? ⟨gb192, 2, none⟩ = some (.int .i64 x193002_3) ∧ w'.cell? ⟨gb192, 3, none⟩ = some (.int .i64 x193003_3) ∧ w'.cell? (ad197.add ((x15_3).toNat * 4)) = some (.int .i64 ((rd_T41 t185 x15_3).f0)) ∧ w'.cell? ⟨(ad197.add ((x15_3).toNat * 4)).block, (ad197.add ((x15_3).toNat * 4)).off + 1, none⟩ = some (.int .i64 ((rd_T41 t185 x15_3).f1)) ∧ w'.cell? ⟨(ad197.add ((x15_3).toNat * 4)).block, (ad197.add ((x15_3).toNat * 4)).off + 2, none⟩ = some (.int .i64 ((rd_T41 t185 x15_3).f2)) ∧ w'.cell? ⟨(ad197.add ((x15_3).toNat * 4)).block, (ad197.add ((x15_3).toNat * 4)).off + 3, none⟩ = some (.int .i64 ((rd_T41 t185 x15_3).f3))) (ds := []) #[false, false, false, false, false, false, false, false] (by kernel_rfl) rfl rfl ⟨(blk_cell BK192.out 0).trans rfl, (blk_cell BK192.out 1).trans rfl, (blk_cell BK192.out 2).trans rfl, (blk_cell BK192.out 3).trans rfl, hx197_0, hx197_1, hx197_2, hx197_3⟩ (fun hHeld => ?_); refine with_tabW coraclelaw24_AuditParts.tab19 coraclelaw24_AuditParts.bits19 (fun HT_ HW_ => ?_)
                                generalize wr.drew = w52 at HO_5 HO_9 HO_10 HO_11 BK192 HB hx197_0 hx197_1 hx197_2 hx197_3 hHeld ⊢
                                refine pure_ (i := 0) (N := some 95) (v := ?_) (a' := ?_) #[true, false, false, false, false, false, false, false] rfl rfl (any_of HT_.out (by kernel_rfl)) (fun _ _ _ h => h) (Or.inl ⟨by rfl, ?_⟩) ?_ ?_
                                rotate_left
                                · intro w'
                                  go_simp
                                  with_reducible rfl
                                rotate_left
                                · simp only [Act.put, List.setIfInBounds_toArray, List.set_cons_zero, List.set_cons_succ, i64_w, i32_w]
                                  rfl
                                refine pure_ (i := 1) (N := some 96) (v := ?_) (a' := ?_) #[true, true, false, false, false, false, false, false] rfl rfl (any_of HT_.out (by kernel_rfl)) (fun _ _ _ h => h) (Or.inl ⟨by rfl, ?_⟩) ?_ ?_
                                rotate_left
                                · intro w'
                                  go_simp
                                  with_reducible rfl
                                rotate_left
                                · simp only [Act.put, List.setIfInBounds_toArray, List.set_cons_zero, List.set_cons_succ, i64_w, i32_w]
                                  rfl
                                refine pure_ (i := 2) (N := some 97) (v := ?_) (a' := ?_) #[true, true, true, false, false, false, false, false] rfl rfl (any_of HT_.out (by kernel_rfl)) (fun _ _ _ h => h) (Or.inl ⟨by rfl, ?_⟩) ?_ ?_
                                rotate_left
                                · intro w'
                                  go_simp
                                  with_reducible rfl
                                rotate_left
                                · simp only [Act.put, List.setIfInBounds_toArray, List.set_cons_zero, List.set_cons_succ, i64_w, i32_w]
                                  rfl
                                refine pure_ (i := 3) (N := some 98) (v := ?_) (a' := ?_) #[true, true, true, true, false, false, false, false] rfl rfl (any_of HT_.out (by kernel_rfl)) (fun _ _ _ h => h) (Or.inl ⟨by rfl, ?_⟩) ?_ ?_
                                rotate_left
                                · intro w'
                                  go_simp
                                  with_reducible rfl
                                rotate_left
                                · simp only [Act.put, List.setIfInBounds_toArray, List.set_cons_zero, List.set_cons_succ, i64_w, i32_w]
                                  rfl
                                refine pure_ (i := 5) (N := some 100) (v := ?_) (a' := ?_) #[true, true, true, true, false, true, false, false] rfl rfl (any_of HT_.out (by kernel_rfl)) (fun _ _ _ h => h) (Or.inl ⟨by rfl, ?_⟩) ?_ ?_
                                rotate_left
                                · intro w'
                                  go_simp
                                  with_reducible rfl
                                rotate_left
                                · simp only [Act.put, List.setIfInBounds_toArray, List.set_cons_zero, List.set_cons_succ, i64_w, i32_w]
                                  rfl
                                refine take_ (i := 4) (N := some 99) (v := ?_) (a' := ?_) #[true, true, true, true, true, true, false, false] rfl rfl (take_ofW HT_.out HW_.out (by kernel_rfl)) (fun _ _ _ h => h) (Or.inl ⟨by rfl, ?_⟩) hHeld ?_ ?_
                                rotate_left
                                · rintro w' ⟨s0, s1, s2, s3, s4, s5, s6, s7⟩
                                  go_simp
                                  with_reducible rfl
                                rotate_left
                                · simp only [Act.put, List.setIfInBounds_toArray, List.set_cons_zero, List.set_cons_succ, i64_w, i32_w]
                                  rfl
                                refine take_ (i := 6) (N := some 101) (v := ?_) (a' := ?_) #[true, true, true, true, true, true, true, false] rfl rfl (take_ofW HT_.out HW_.out (by kernel_rfl)) (fun _ _ _ h => h) (Or.inl ⟨by rfl, ?_⟩) hHeld ?_ ?_
                                rotate_left
                                · rintro w' ⟨s0, s1, s2, s3, s4, s5, s6, s7⟩
                                  go_simp
                                  with_reducible rfl
                                rotate_left
                                · simp only [Act.put, List.setIfInBounds_toArray, List.set_cons_zero, List.set_cons_succ, i64_w, i32_w]
                                  rfl
                                refine pure_ (i := 7) (N := some 102) (v := ?_) (a' := ?_) #[true, true, true, true, true, true, true, true] rfl rfl (any_of HT_.out (by kernel_rfl)) (fun _ _ _ h => h) (Or.inl ⟨by rfl, ?_⟩) ?_ ?_
                                rotate_left
                                · intro w'
                                  go_simp
                                  with_reducible rfl
                                rotate_left
                                · simp only [Act.put, List.setIfInBounds_toArray, List.set_cons_zero, List.set_cons_succ, i64_w, i32_w]
                                  rfl
                                refine done_ (done_of HT_.out (by kernel_rfl)) ?_
                                try go_wp2
                                go_roundg k3
                                case measure => have := HK1.out; have := HK2.out; have := HK3.out; omega
                                case rel => exact ⟨(wrap64 (x15_3 + 1)), (x193001_3), (x193002_3), (x193003_3), (by first | rfl | (simp; done) | (simp [*]; done)), H', ⟨by have := HK1.out; have := HK2.out; have := HK3.out; omega⟩, ⟨by (with_reducible repeat (first | apply Kd.R_alloc | apply Kd.R_drewN | apply Kd.R_drew)); exact HO_5.out⟩, ⟨by (with_reducible repeat (first | apply Kd.R_alloc | apply Kd.R_drewN | apply Kd.R_drew)); exact HO_9.out⟩, ⟨by (with_reducible repeat (first | apply Kd.R_alloc | apply Kd.R_drewN | apply Kd.R_drew)); exact HO_10.out⟩, ⟨by (with_reducible repeat (first | apply Kd.R_alloc | apply Kd.R_drewN | apply Kd.R_drew)); exact HO_11.out⟩, ⟨by (with_reducible repeat (first | refine blk_drewN ?_ _ | refine blk_drew ?_ | refine blk_alloc ?_ _)); exact BK192.out⟩, ⟨by repeat (first | (with_reducible first | exact HB.out | apply below_alloc | apply pw_below_drewN | apply below_drew1 | refine below_set ?_ GE192.out) | exact HB.out)⟩⟩
                            · rw [if_neg c43] at H
                              exact absurd H (by simp)
                          · rw [if_neg c42] at H
                            have c42b0 : decide (x15_3 < (t185.length : Int)) = false := decide_eq_false c42
                            clear c42
                            by_cases c53 : x193001_3 = 0
                            · rw [if_pos c53] at H
                              have c53b0 : (x193001_3 == 0) = true := beq_iff_eq.mpr c53
                              have c53b1 : (x193001_3 != 0) = false := bne_eq_false_iff_eq.mpr c53
                              clear c53
                              by_cases c54 : x193002_3 = 0
                              · rw [if_pos c54] at H
                                have c54b0 : (x193002_3 == 0) = true := beq_iff_eq.mpr c54
                                have c54b1 : (x193002_3 != 0) = false := bne_eq_false_iff_eq.mpr c54
                                clear c54
                                by_cases c55 : x193003_3 = 0
                                · rw [if_pos c55] at H
                                  have c55b0 : (x193003_3 == 0) = true := beq_iff_eq.mpr c55
                                  have c55b1 : (x193003_3 != 0) = false := bne_eq_false_iff_eq.mpr c55
                                  clear c55
                                  have H' := Aside0.mk H
                                  clear H
                                  obtain ⟨Ao56, co56, eo56⟩ := Kd.R_slice HO_11.out
                                  subst eo56
                                  have hcz57_0 : wr.cell? ⟨gb192, 0, none⟩ = some (.int .i64 ((rd_T41 t179 x12_1).f0)) := (blk_cell BK192.out 0).trans rfl
                                  have hcz57_1 : wr.cell? ⟨gb192, 1, none⟩ = some (.int .i64 x193001_3) := (blk_cell BK192.out 1).trans rfl
                                  have hcz57_2 : wr.cell? ⟨gb192, 2, none⟩ = some (.int .i64 x193002_3) := (blk_cell BK192.out 2).trans rfl
                                  have hcz57_3 : wr.cell? ⟨gb192, 3, none⟩ = some (.int .i64 x193003_3) := (blk_cell BK192.out 3).trans rfl
                                  have hfz57_0 := blk_frozen BK192.out 0
                                  have hfz57_1 := blk_frozen BK192.out 1
                                  have hfz57_2 := blk_frozen BK192.out 2
                                  have hfz57_3 := blk_frozen BK192.out 3
                                  go_wp2
                                  go_roundg k3
                                  case measure => have := HK1.out; have := HK2.out; have := HK3.out; omega
                                  case rel => exact ⟨(wrap64 (x12_1 + 1)), (by first | rfl | (simp; done) | (simp [*]; done)), H', ⟨by have := HK1.out; have := HK2.out; have := HK3.out; omega⟩, ⟨by (with_reducible repeat (first | apply Kd.R_alloc | apply Kd.R_drewN | apply Kd.R_drew)); exact HO_5.out⟩, ⟨by (with_reducible repeat (first | apply Kd.R_alloc | apply Kd.R_drewN | apply Kd.R_drew)); exact Kd.R_mono HO_9.out (fun _ hk => ⟨hk.1, hk.2.1⟩)⟩, ⟨by (with_reducible repeat (first | apply Kd.R_alloc | apply Kd.R_drewN | apply Kd.R_drew)); exact Kd.R_mono HO_10.out (fun _ hk => ⟨hk.1, hk.2.1⟩)⟩, ⟨by (with_reducible repeat (first | apply Kd.R_alloc | apply Kd.R_drewN | apply Kd.R_drew)); exact Kd.R_mono HO_11.out (fun _ hk => ⟨hk.1, hk.2.1⟩)⟩, ⟨by repeat (first | (with_reducible first | exact HB.out | apply below_alloc | apply pw_below_drewN | apply below_drew1 | refine below_set ?_ GE192.out) | exact HB.out)⟩⟩
                                · rw [if_neg c55] at H
                                  have c55b0 : (x193003_3 == 0) = false := beq_eq_false_iff_ne.mpr c55
                                  have c55b1 : (x193003_3 != 0) = true := bne_iff_ne.mpr c55
                                  obtain rfl := Option.some.inj H
                                  obtain ⟨Ao58, co58, eo58⟩ := Kd.R_slice HO_11.out
                                  subst eo58
                                  have hcz59_0 : wr.cell? ⟨gb192, 0, none⟩ = some (.int .i64 ((rd_T41 t179 x12_1).f0)) := (blk_cell BK192.out 0).trans rfl
                                  have hcz59_1 : wr.cell? ⟨gb192, 1, none⟩ = some (.int .i64 x193001_3) := (blk_cell BK192.out 1).trans rfl
                                  have hcz59_2 : wr.cell? ⟨gb192, 2, none⟩ = some (.int .i64 x193002_3) := (blk_cell BK192.out 2).trans rfl
                                  have hcz59_3 : wr.cell? ⟨gb192, 3, none⟩ = some (.int .i64 x193003_3) := (blk_cell BK192.out 3).trans rfl
                                  have hfz59_0 := blk_frozen BK192.out 0
                                  have hfz59_1 := blk_frozen BK192.out 1
                                  have hfz59_2 := blk_frozen BK192.out 2
                                  have hfz59_3 := blk_frozen BK192.out 3
                                  go_wp2
                                  go_ret
                                  exact ⟨by first | rfl | (simp [errW_none, errW_some] <;> rfl) | (simp [*, errW_none, errW_some] <;> rfl), by repeat (first | (with_reducible first | exact HB.out | apply below_alloc | apply pw_below_drewN | apply below_drew1 | refine below_set ?_ GE192.out) | exact HB.out)⟩
                              · rw [if_neg c54] at H
                                have c54b0 : (x193002_3 == 0) = false := beq_eq_false_iff_ne.mpr c54
                                have c54b1 : (x193002_3 != 0) = true := bne_iff_ne.mpr c54
                                obtain rfl := Option.some.inj H
                                obtain ⟨Ao60, co60, eo60⟩ := Kd.R_slice HO_11.out
                                subst eo60
                                have hcz61_0 : wr.cell? ⟨gb192, 0, none⟩ = some (.int .i64 ((rd_T41 t179 x12_1).f0)) := (blk_cell BK192.out 0).trans rfl
                                have hcz61_1 : wr.cell? ⟨gb192, 1, none⟩ = some (.int .i64 x193001_3) := (blk_cell BK192.out 1).trans rfl
                                have hcz61_2 : wr.cell? ⟨gb192, 2, none⟩ = some (.int .i64 x193002_3) := (blk_cell BK192.out 2).trans rfl
                                have hcz61_3 : wr.cell? ⟨gb192, 3, none⟩ = some (.int .i64 x193003_3) := (blk_cell BK192.out 3).trans rfl
                                have hfz61_0 := blk_frozen BK192.out 0
                                have hfz61_1 := blk_frozen BK192.out 1
                                have hfz61_2 := blk_frozen BK192.out 2
                                have hfz61_3 := blk_frozen BK192.out 3
                                go_wp2
                                go_ret
                                exact ⟨by first | rfl | (simp [errW_none, errW_some] <;> rfl) | (simp [*, errW_none, errW_some] <;> rfl), by repeat (first | (with_reducible first | exact HB.out | apply below_alloc | apply pw_below_drewN | apply below_drew1 | refine below_set ?_ GE192.out) | exact HB.out)⟩
                            · rw [if_neg c53] at H
                              have c53b0 : (x193001_3 == 0) = false := beq_eq_false_iff_ne.mpr c53
                              have c53b1 : (x193001_3 != 0) = true := bne_iff_ne.mpr c53
                              obtain rfl := Option.some.inj H
                              obtain ⟨Ao62, co62, eo62⟩ := Kd.R_slice HO_11.out
                              subst eo62
                              have hcz63_0 : wr.cell? ⟨gb192, 0, none⟩ = some (.int .i64 ((rd_T41 t179 x12_1).f0)) := (blk_cell BK192.out 0).trans rfl
                              have hcz63_1 : wr.cell? ⟨gb192, 1, none⟩ = some (.int .i64 x193001_3) := (blk_cell BK192.out 1).trans rfl
                              have hcz63_2 : wr.cell? ⟨gb192, 2, none⟩ = some (.int .i64 x193002_3) := (blk_cell BK192.out 2).trans rfl
                              have hcz63_3 : wr.cell? ⟨gb192, 3, none⟩ = some (.int .i64 x193003_3) := (blk_cell BK192.out 3).trans rfl
                              have hfz63_0 := blk_frozen BK192.out 0
                              have hfz63_1 := blk_frozen BK192.out 1
                              have hfz63_2 := blk_frozen BK192.out 2
                              have hfz63_3 := blk_frozen BK192.out 3
                              go_wp2
                              go_ret
                              exact ⟨by first | rfl | (simp [errW_none, errW_some] <;> rfl) | (simp [*, errW_none, errW_some] <;> rfl), by repeat (first | (with_reducible first | exact HB.out | apply below_alloc | apply pw_below_drewN | apply below_drew1 | refine below_set ?_ GE192.out) | exact HB.out)⟩
              · rw [if_neg c26] at H
                exact absurd H (by simp)
            · rw [if_neg c25] at H
              have c25b0 : decide (x12_1 < (t179.length : Int)) = false := decide_eq_false c25
              clear c25
              replace H := Option.bind_eq_some_iff.mp H
              obtain ⟨t188, A640, H⟩ := H
              replace H : (if (t188.length : Int) = 0 then (some (decide ((t179.length : Int) ≥ (mx (t182.length : Int) (t185.length : Int))))) else (some false)) = some r := H
              have A64 := Aside0.mk A640
              clear A640
              by_cases c65 : (t188.length : Int) = 0
              · rw [if_pos c65] at H
                have c65b0 : ((t188.length : Int) == 0) = true := beq_iff_eq.mpr c65
                have c65b1 : ((t188.length : Int) != 0) = false := bne_eq_false_iff_eq.mpr c65
                clear c65
                obtain ⟨ji66, hji66⟩ : ∃ j_ : Int, (mx (t182.length : Int) (t185.length : Int)) = j_ := ⟨_, rfl⟩
                replace H : (some (decide ((t179.length : Int) ≥ (ji66)))) = some r := by first | (rw [hji66] at H; exact H) | (simp only [hji66] at H ⊢; exact H)
                (try rw [hji66] at A64)
                have hji66_ : (if (t182.length : Int) < (t185.length : Int) then (t185.length : Int) else (t182.length : Int)) = ji66 := hji66
                obtain rfl := Option.some.inj H
                obtain ⟨Ao67, co67, eo67⟩ := Kd.R_slice HO_9.out
                subst eo67
                go_wp2_with (first | ((with_reducible refine gate_callee (f := 11) rfl ?_); refine goesL_ (some 144) rfl rfl Try.func11 (by kernel_rfl) rfl #[.slice Ao18 t158.length co18, .int .i64 0] rfl (by (try simp only [List.map_toArray, List.map_cons, List.map_nil]); first | done | rfl | (simp only [List.length_drop, List.length_take]; rfl)) ?_; (with_reducible refine (audit_Twice.calls _ _ t158 0 t188 _ ?side1 ?side2 A64.out).mono ?_); (case side1 => repeat (first | exact (Kd.R_reads' HO_5.out).2.2 | (with_reducible refine Kd.C_alloc ?_ _) | (with_reducible refine Kd.C_drewN ?_ _) | (with_reducible refine Kd.C_drew ?_))); (case side2 => exact (Kd.R_reads' HO_5.out).2.1); rintro e w68 ⟨v189, rfl, ho0, hb⟩; refine ⟨_, rfl, ?_⟩; have n0_ := Aside0.mk (Kd.R_below (by (with_reducible repeat (first | apply Kd.R_alloc | apply Kd.R_drewN | apply Kd.R_drew)); exact HO_5.out) hb); have n1_ := Aside0.mk (Kd.R_below (by (with_reducible repeat (first | apply Kd.R_alloc | apply Kd.R_drewN | apply Kd.R_drew)); exact HO_9.out) hb); have n2_ := Aside0.mk (Kd.R_below (by (with_reducible repeat (first | apply Kd.R_alloc | apply Kd.R_drewN | apply Kd.R_drew)); exact HO_10.out) hb); have n3_ := Aside0.mk (Kd.R_below (by (with_reducible repeat (first | apply Kd.R_alloc | apply Kd.R_drewN | apply Kd.R_drew)); exact HO_11.out) hb); have n4_ := Aside0.mk (Kd.R_lower ho0 (below_size (by repeat (first | (with_reducible first | exact HB.out | apply below_alloc | apply pw_below_drewN | apply below_drew1) | exact HB.out)))); have n5_ := Aside0.mk (below_step (by repeat (first | (with_reducible first | exact HB.out | apply below_alloc | apply pw_below_drewN | apply below_drew1) | exact HB.out)) hb); clear HO_5; clear HO_9; clear HO_10; clear HO_11; clear HB; have HO_5 := n0_; have HO_9 := n1_; have HO_10 := n2_; have HO_11 := n3_; have HO190 := n4_; have HB := n5_; clear n0_ n1_ n2_ n3_ n4_ n5_; (try clear hb); (try clear hb2); (try clear hk); (try clear hi); (try clear ho0); obtain ⟨Ao69, co69, eo69⟩ := Kd.R_slice HO190.out; subst eo69; obtain ⟨Ao70, co70, eo70⟩ := Kd.R_slice HO_10.out; subst eo70; obtain ⟨Ao71, co71, eo71⟩ := Kd.R_slice HO_11.out; subst eo71))
                all_goals (go_ret; refine ⟨?_, by repeat (first | (with_reducible first | exact HB.out | apply below_alloc | apply pw_below_drewN | apply below_drew1) | exact HB.out)⟩; first | rfl | (refine congrArg (fun b => Ending.returned (Value.bool b)) (decide_eq_decide.2 ?_); rw [← hji66_]; split <;> omega))
              · rw [if_neg c65] at H
                have c65b0 : ((t188.length : Int) == 0) = false := beq_eq_false_iff_ne.mpr c65
                have c65b1 : ((t188.length : Int) != 0) = true := bne_iff_ne.mpr c65
                have c65b2 : ¬ (t188 = []) := fun h_ => c65 (by rw [h_]; rfl)
                obtain rfl := Option.some.inj H
                obtain ⟨Ao72, co72, eo72⟩ := Kd.R_slice HO_9.out
                subst eo72
                go_wp2_with (first | ((with_reducible refine gate_callee (f := 11) rfl ?_); refine goesL_ (some 144) rfl rfl Try.func11 (by kernel_rfl) rfl #[.slice Ao18 t158.length co18, .int .i64 0] rfl (by (try simp only [List.map_toArray, List.map_cons, List.map_nil]); first | done | rfl | (simp only [List.length_drop, List.length_take]; rfl)) ?_; (with_reducible refine (audit_Twice.calls _ _ t158 0 t188 _ ?side1 ?side2 A64.out).mono ?_); (case side1 => repeat (first | exact (Kd.R_reads' HO_5.out).2.2 | (with_reducible refine Kd.C_alloc ?_ _) | (with_reducible refine Kd.C_drewN ?_ _) | (with_reducible refine Kd.C_drew ?_))); (case side2 => exact (Kd.R_reads' HO_5.out).2.1); rintro e w73 ⟨v189, rfl, ho0, hb⟩; refine ⟨_, rfl, ?_⟩; have n0_ := Aside0.mk (Kd.R_below (by (with_reducible repeat (first | apply Kd.R_alloc | apply Kd.R_drewN | apply Kd.R_drew)); exact HO_5.out) hb); have n1_ := Aside0.mk (Kd.R_below (by (with_reducible repeat (first | apply Kd.R_alloc | apply Kd.R_drewN | apply Kd.R_drew)); exact HO_9.out) hb); have n2_ := Aside0.mk (Kd.R_below (by (with_reducible repeat (first | apply Kd.R_alloc | apply Kd.R_drewN | apply Kd.R_drew)); exact HO_10.out) hb); have n3_ := Aside0.mk (Kd.R_below (by (with_reducible repeat (first | apply Kd.R_alloc | apply Kd.R_drewN | apply Kd.R_drew)); exact HO_11.out) hb); have n4_ := Aside0.mk (Kd.R_lower ho0 (below_size (by repeat (first | (with_reducible first | exact HB.out | apply below_alloc | apply pw_below_drewN | apply below_drew1) | exact HB.out)))); have n5_ := Aside0.mk (below_step (by repeat (first | (with_reducible first | exact HB.out | apply below_alloc | apply pw_below_drewN | apply below_drew1) | exact HB.out)) hb); clear HO_5; clear HO_9; clear HO_10; clear HO_11; clear HB; have HO_5 := n0_; have HO_9 := n1_; have HO_10 := n2_; have HO_11 := n3_; have HO190 := n4_; have HB := n5_; clear n0_ n1_ n2_ n3_ n4_ n5_; (try clear hb); (try clear hb2); (try clear hk); (try clear hi); (try clear ho0); obtain ⟨Ao74, co74, eo74⟩ := Kd.R_slice HO190.out; subst eo74))
                go_ret
                exact ⟨by first | rfl | (simp [errW_none, errW_some] <;> rfl) | (simp [*, errW_none, errW_some] <;> rfl), by repeat (first | (with_reducible first | exact HB.out | apply below_alloc | apply pw_below_drewN | apply below_drew1) | exact HB.out)⟩
      · rw [if_neg c8] at H
        exact absurd H (by simp)
    · rw [if_neg c7] at H
      exact absurd H (by simp)
  · replace c4 := Bool.eq_false_iff.mpr c4
    subst c4
    have H1 : (some false) = some r := by rw [if_neg (show ¬ (false = true) by decide)] at H; exact H
    clear H
    have H := H1
    clear H1
    obtain rfl := Option.some.inj H
    go_enter Try.func6, Try.ntmps6
    go_wp2_with (first | ((with_reducible refine gate_callee (f := 7) rfl ?_); refine goesL_ (some 16) rfl rfl Try.func7 (by kernel_rfl) rfl #[] rfl (by (try simp only [List.map_toArray, List.map_cons, List.map_nil]); first | done | rfl | (simp only [List.length_drop, List.length_take]; rfl)) ?_; (with_reducible refine (coraclelaw24_speaks.calls  false _ A3.out).mono ?_); rintro e w75 ⟨rfl, hb⟩; refine ⟨_, rfl, ?_⟩; have n0_ := Aside0.mk (below_step (by repeat (first | (with_reducible first | exact HB.out | apply below_alloc | apply pw_below_drewN | apply below_drew1) | exact HB.out)) hb); clear HB; have HB := n0_; clear n0_; (try clear hb); (try clear hb2); (try clear hk); (try clear hi)))
    go_ret
    exact ⟨by first | rfl | (simp [errW_none, errW_some] <;> rfl) | (simp [*, errW_none, errW_some] <;> rfl), by repeat (first | (with_reducible first | exact HB.out | apply below_alloc | apply pw_below_drewN | apply below_drew1) | exact HB.out)⟩

end Go.Proofs.Ytelfachmfcjpoaa.PA
