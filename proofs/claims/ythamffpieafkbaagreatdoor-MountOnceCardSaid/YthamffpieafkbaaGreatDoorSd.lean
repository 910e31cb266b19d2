import Derived.Test.YthamffpieafkbaaGreatDoorPAx0
import Derived.Test.YthamffpieafkbaaGreatDoorPAx1
-- printed by a program of this session (wip/tools), over the translation
namespace Go.Proofs.YthamffpieafkbaaGreatDoor.PA
open Go.RowKit Go.Proofs.YthamffpieafkbaaGreatDoorW.PrintWords Go.Proofs.YthamffpieafkbaaGreatDoorW.PrintLast Go.Proofs.YthamffpieafkbaaGreatDoorW.PrintMore
attribute [local go_sem] max2_int min2_int max_two min_two max_three min_three max_four min_four   -- for this text's walks alone
set_option linter.unusedVariables false
set_option linter.unusedSimpArgs false

theorem IsS111.farA {w0 W : World} {g gb : Nat} {f0 : ByteArray} {f1 : Int} (hne : g ≠ gb) {i : Nat} {u : Value} (h : IsS111 w0 W g f0 f1) : IsS111 w0 (W.setCell ⟨gb, i, none⟩ u) g f0 f1 := IsS111.far (p := ⟨gb, i, none⟩) h hne u
theorem info117 : (Tryz.prog.info? 117).map (fun i => (i.zero, i.size, i.bytes)) = some (some (.agg #[(.int .u8 0), (.int .i64 0), (.slice none 0 0)]), 3, 40) := by kernel_rfl
theorem info123 : (Tryz.prog.info? 123).map (fun i => (i.zero, i.size, i.bytes)) = some (some (.agg #[(.int .i64 0), (.bool false), (.slice none 0 0)]), 3, 40) := by kernel_rfl
/-! ### schema_parser_form and schema_parser_arms, which call each other -/
mutual
def schema_parser_form.l0 : Nat → Int → List (S117) → ByteArray → Int → Option ((List (S117)) × ByteArray × Int)
  | 0, _, _, _, _ => none
  | k + 1, x1, x5, x1000, x1001 => (schema_parser_peek.f x1000 x1001).bind fun bt110 => (if bt110.1 = 117 then (schema_parser_form.j1 k x1 x5 bt110.1 (bt110.1 == 117) bt110.2.1 bt110.2.2 bt110.1 0) else (if bt110.1 = 113 then (schema_parser_form.j1 k x1 x5 bt110.1 (bt110.1 == 113) bt110.2.1 bt110.2.2 bt110.1 0) else (schema_parser_form.j1 k x1 x5 bt110.1 (bt110.1 == 98) bt110.2.1 bt110.2.2 bt110.1 0)))
def schema_parser_form.j1 : Nat → Int → List (S117) → Int → Bool → ByteArray → Int → Int → Int → Option ((List (S117)) × ByteArray × Int)
  | 0, _, _, _, _, _, _, _, _ => none
  | k + 1, x1, x5, x15, x17, x1000, x1001, x114000, x114001 => if x17 = true then (if x5.length < 3518437208883 then (schema_parser_form.l0 k x1 (x5 ++ [(⟨x114000, x114001, ([] : List (S123))⟩ : S117)]) x1000 (wrap64 (x1001 + 1))) else (none)) else (if x15 = 111 then (schema_parser_form.j2 k x1 x5 x15 (x15 == 111) x1000 x1001 x114000 x114001) else (schema_parser_form.j2 k x1 x5 x15 (x15 == 102) x1000 x1001 x114000 x114001))
def schema_parser_form.j2 : Nat → Int → List (S117) → Int → Bool → ByteArray → Int → Int → Int → Option ((List (S117)) × ByteArray × Int)
  | 0, _, _, _, _, _, _, _, _ => none
  | k + 1, x1, x5, x15, x28, x1000, x1001, x114000, x114001 => if x28 = true then ((schema_parser_number.f k x1000 (wrap64 (x1001 + 1))).bind fun bt117 => (if x5.length < 3518437208883 then (schema_parser_form.l0 k x1 (x5 ++ [(⟨x114000, bt117.1, ([] : List (S123))⟩ : S117)]) bt117.2.1 bt117.2.2) else (none))) else (if x15 = 63 then (schema_parser_form.j3 k x1 x5 x15 (x15 == 63) x1000 x1001 x114000 x114001) else (schema_parser_form.j3 k x1 x5 x15 (x15 == 42) x1000 x1001 x114000 x114001))
def schema_parser_form.j3 : Nat → Int → List (S117) → Int → Bool → ByteArray → Int → Int → Int → Option ((List (S117)) × ByteArray × Int)
  | 0, _, _, _, _, _, _, _, _ => none
  | k + 1, x1, x5, x15, x41, x1000, x1001, x114000, x114001 => if x41 = true then ((schema_parser_want.f x1000 (wrap64 (x1001 + 1)) 40).bind fun bt123 => ((schema_parser_form.f k bt123.1 bt123.2 (wrap64 (x1 + 1))).bind fun bt125 => ((schema_parser_want.f bt125.2.1 bt125.2.2 41).bind fun bt130 => (if x114000 = 42 then (if (bt125.1.length : Int) = 0 then (none) else (if x5.length < 3518437208883 then (schema_parser_form.l0 k x1 (x5 ++ [(⟨x114000, x114001, (([(⟨0, false, bt125.1⟩ : S123)] : List (S123)))⟩ : S117)]) bt130.1 bt130.2) else (none))) else (if x5.length < 3518437208883 then (schema_parser_form.l0 k x1 (x5 ++ [(⟨x114000, x114001, (([(⟨0, false, bt125.1⟩ : S123)] : List (S123)))⟩ : S117)]) bt130.1 bt130.2) else (none)))))) else (if x15 = 60 then ((schema_parser_arms.l0 k (wrap64 (x1 + 1)) ([] : List (S123)) x1000 (wrap64 (x1001 + 1))).bind fun bt144 => ((schema_parser_want.f bt144.2.1 bt144.2.2 62).bind fun bt149 => (if x5.length < 3518437208883 then (schema_parser_form.l0 k x1 (x5 ++ [(⟨x114000, x114001, bt144.1⟩ : S117)]) bt149.1 bt149.2) else (none)))) else (some (x5, x1000, x1001)))
def schema_parser_form.f : Nat → ByteArray → Int → Int → Option ((List (S117)) × ByteArray × Int)
  | 0, _, _, _ => none
  | k + 1, s0_0, s0_1, a1 => if a1 > 16 then (none) else (schema_parser_form.l0 k a1 ([] : List (S117)) s0_0 s0_1)
def schema_parser_arms.l0 : Nat → Int → List (S123) → ByteArray → Int → Option ((List (S123)) × ByteArray × Int)
  | 0, _, _, _, _ => none
  | k + 1, x1, x5, x1000, x1001 => (schema_parser_peek.f x1000 x1001).bind fun bt110 => (if bt110.1 = 45 then (schema_parser_arms.j1 k x1 x5 bt110.2.1 (wrap64 (bt110.2.2 + 1)) 0 (bt110.1 == 45)) else ((schema_parser_number.f k bt110.2.1 bt110.2.2).bind fun bt114 => (schema_parser_arms.j1 k x1 x5 bt114.2.1 bt114.2.2 bt114.1 (bt110.1 == 45))))
def schema_parser_arms.j1 : Nat → Int → List (S123) → ByteArray → Int → Int → Bool → Option ((List (S123)) × ByteArray × Int)
  | 0, _, _, _, _, _, _ => none
  | k + 1, x1, x5, x1000, x1001, x114000, x114001 => schema_parser_arms.l1 k x1 x5 x5 (x5.length : Int) 0 x1000 x1001 x114000 x114001
def schema_parser_arms.l1 : Nat → Int → List (S123) → List (S123) → Int → Int → ByteArray → Int → Int → Bool → Option ((List (S123)) × ByteArray × Int)
  | 0, _, _, _, _, _, _, _, _, _ => none
  | k + 1, x1, x5, x25, x26, x27, x1000, x1001, x114000, x114001 => if x27 < x26 then (if 0 ≤ x27 then (if x27 < (x25.length : Int) then (if x114001 = true then (schema_parser_arms.l1 k x1 x5 x25 x26 (wrap64 (x27 + 1)) x1000 x1001 x114000 x114001) else (if ((rd_T123 x25 x27).f0) = x114000 then (none) else (schema_parser_arms.l1 k x1 x5 x25 x26 (wrap64 (x27 + 1)) x1000 x1001 x114000 x114001))) else (none)) else (none)) else ((schema_parser_want.f x1000 x1001 58).bind fun bt119 => ((schema_parser_form.f k bt119.1 bt119.2 x1).bind fun bt121 => (if x5.length < 3518437208883 then ((some (x5 ++ [(⟨x114000, x114001, bt121.1⟩ : S123)] : List (S123))).bind fun y126 => (if x114001 = true then (some (y126, bt121.2.1, bt121.2.2)) else ((schema_parser_peek.f bt121.2.1 bt121.2.2).bind fun bt129 => (if bt129.1 = 44 then (schema_parser_arms.l0 k x1 y126 bt129.2.1 (wrap64 (bt129.2.2 + 1))) else (some (y126, bt129.2.1, bt129.2.2)))))) else (none))))
end
def schema_parser_arms.f (k : Nat) (s0_0 : ByteArray) (s0_1 : Int) (a1 : Int) : Option ((List (S123)) × ByteArray × Int) := schema_parser_arms.l0 k a1 ([] : List (S123)) s0_0 s0_1
theorem schema_parser_form.both_l : ∀ k, ((∀ y0 y1 y2, LeO (schema_parser_form.f k y0 y1 y2) (schema_parser_form.f (k + 1) y0 y1 y2)) ∧ (∀ y0 y1 y2 y3, LeO (schema_parser_form.l0 k y0 y1 y2 y3) (schema_parser_form.l0 (k + 1) y0 y1 y2 y3)) ∧ (∀ y0 y1 y2 y3 y4 y5 y6 y7, LeO (schema_parser_form.j1 k y0 y1 y2 y3 y4 y5 y6 y7) (schema_parser_form.j1 (k + 1) y0 y1 y2 y3 y4 y5 y6 y7)) ∧ (∀ y0 y1 y2 y3 y4 y5 y6 y7, LeO (schema_parser_form.j2 k y0 y1 y2 y3 y4 y5 y6 y7) (schema_parser_form.j2 (k + 1) y0 y1 y2 y3 y4 y5 y6 y7)) ∧ (∀ y0 y1 y2 y3 y4 y5 y6 y7, LeO (schema_parser_form.j3 k y0 y1 y2 y3 y4 y5 y6 y7) (schema_parser_form.j3 (k + 1) y0 y1 y2 y3 y4 y5 y6 y7))) ∧ ((∀ y0 y1 y2 y3, LeO (schema_parser_arms.l0 k y0 y1 y2 y3) (schema_parser_arms.l0 (k + 1) y0 y1 y2 y3)) ∧ (∀ y0 y1 y2 y3 y4 y5, LeO (schema_parser_arms.j1 k y0 y1 y2 y3 y4 y5) (schema_parser_arms.j1 (k + 1) y0 y1 y2 y3 y4 y5)) ∧ (∀ y0 y1 y2 y3 y4 y5 y6 y7 y8, LeO (schema_parser_arms.l1 k y0 y1 y2 y3 y4 y5 y6 y7 y8) (schema_parser_arms.l1 (k + 1) y0 y1 y2 y3 y4 y5 y6 y7 y8)))
  | 0 => ⟨⟨fun _ _ _ r h => by simp [schema_parser_form.f] at h, fun _ _ _ _ r h => by simp [schema_parser_form.l0] at h, fun _ _ _ _ _ _ _ _ r h => by simp [schema_parser_form.j1] at h, fun _ _ _ _ _ _ _ _ r h => by simp [schema_parser_form.j2] at h, fun _ _ _ _ _ _ _ _ r h => by simp [schema_parser_form.j3] at h⟩, ⟨fun _ _ _ _ r h => by simp [schema_parser_arms.l0] at h, fun _ _ _ _ _ _ r h => by simp [schema_parser_arms.j1] at h, fun _ _ _ _ _ _ _ _ _ r h => by simp [schema_parser_arms.l1] at h⟩⟩
  | k + 1 => by
    obtain ⟨⟨ih0, ih1, ih2, ih3, ih4⟩, ⟨jh0, jh1, jh2⟩⟩ := schema_parser_form.both_l k
    refine ⟨⟨?_, ?_, ?_, ?_, ?_⟩, ⟨?_, ?_, ?_⟩⟩
    · intro y0 y1 y2
      unfold schema_parser_form.f
      repeat' first
      | (with_reducible exact ih0 _ _ _)
      | (with_reducible exact ih1 _ _ _ _)
      | (with_reducible exact ih2 _ _ _ _ _ _ _ _)
      | (with_reducible exact ih3 _ _ _ _ _ _ _ _)
      | (with_reducible exact ih4 _ _ _ _ _ _ _ _)
      | (with_reducible exact jh0 _ _ _ _)
      | (with_reducible exact schema_parser_number.mono _ _ _)
      | (with_reducible exact LeO.refl _)
      | (with_reducible exact LeO.none _)
      | (with_reducible refine LeO.ite ?_ ?_)
      | (with_reducible refine LeO.bind ?_ (fun _ => ?_))
      | exact ih0 _ _ _
      | exact ih1 _ _ _ _
      | exact ih2 _ _ _ _ _ _ _ _
      | exact ih3 _ _ _ _ _ _ _ _
      | exact ih4 _ _ _ _ _ _ _ _
      | exact jh0 _ _ _ _
      | exact schema_parser_number.mono _ _ _
      | exact LeO.none _
      | refine LeO.ite ?_ ?_
      | refine LeO.bind ?_ (fun _ => ?_)
    · intro y0 y1 y2 y3
      unfold schema_parser_form.l0
      repeat' first
      | (with_reducible exact ih0 _ _ _)
      | (with_reducible exact ih1 _ _ _ _)
      | (with_reducible exact ih2 _ _ _ _ _ _ _ _)
      | (with_reducible exact ih3 _ _ _ _ _ _ _ _)
      | (with_reducible exact ih4 _ _ _ _ _ _ _ _)
      | (with_reducible exact jh0 _ _ _ _)
      | (with_reducible exact schema_parser_number.mono _ _ _)
      | (with_reducible exact LeO.refl _)
      | (with_reducible exact LeO.none _)
      | (with_reducible refine LeO.ite ?_ ?_)
      | (with_reducible refine LeO.bind ?_ (fun _ => ?_))
      | exact ih0 _ _ _
      | exact ih1 _ _ _ _
      | exact ih2 _ _ _ _ _ _ _ _
      | exact ih3 _ _ _ _ _ _ _ _
      | exact ih4 _ _ _ _ _ _ _ _
      | exact jh0 _ _ _ _
      | exact schema_parser_number.mono _ _ _
      | exact LeO.none _
      | refine LeO.ite ?_ ?_
      | refine LeO.bind ?_ (fun _ => ?_)
    · intro y0 y1 y2 y3 y4 y5 y6 y7
      unfold schema_parser_form.j1
      repeat' first
      | (with_reducible exact ih0 _ _ _)
      | (with_reducible exact ih1 _ _ _ _)
      | (with_reducible exact ih2 _ _ _ _ _ _ _ _)
      | (with_reducible exact ih3 _ _ _ _ _ _ _ _)
      | (with_reducible exact ih4 _ _ _ _ _ _ _ _)
      | (with_reducible exact jh0 _ _ _ _)
      | (with_reducible exact schema_parser_number.mono _ _ _)
      | (with_reducible exact LeO.refl _)
      | (with_reducible exact LeO.none _)
      | (with_reducible refine LeO.ite ?_ ?_)
      | (with_reducible refine LeO.bind ?_ (fun _ => ?_))
      | exact ih0 _ _ _
      | exact ih1 _ _ _ _
      | exact ih2 _ _ _ _ _ _ _ _
      | exact ih3 _ _ _ _ _ _ _ _
      | exact ih4 _ _ _ _ _ _ _ _
      | exact jh0 _ _ _ _
      | exact schema_parser_number.mono _ _ _
      | exact LeO.none _
      | refine LeO.ite ?_ ?_
      | refine LeO.bind ?_ (fun _ => ?_)
    · intro y0 y1 y2 y3 y4 y5 y6 y7
      unfold schema_parser_form.j2
      repeat' first
      | (with_reducible exact ih0 _ _ _)
      | (with_reducible exact ih1 _ _ _ _)
      | (with_reducible exact ih2 _ _ _ _ _ _ _ _)
      | (with_reducible exact ih3 _ _ _ _ _ _ _ _)
      | (with_reducible exact ih4 _ _ _ _ _ _ _ _)
      | (with_reducible exact jh0 _ _ _ _)
      | (with_reducible exact schema_parser_number.mono _ _ _)
      | (with_reducible exact LeO.refl _)
      | (with_reducible exact LeO.none _)
      | (with_reducible refine LeO.ite ?_ ?_)
      | (with_reducible refine LeO.bind ?_ (fun _ => ?_))
      | exact ih0 _ _ _
      | exact ih1 _ _ _ _
      | exact ih2 _ _ _ _ _ _ _ _
      | exact ih3 _ _ _ _ _ _ _ _
      | exact ih4 _ _ _ _ _ _ _ _
      | exact jh0 _ _ _ _
      | exact schema_parser_number.mono _ _ _
      | exact LeO.none _
      | refine LeO.ite ?_ ?_
      | refine LeO.bind ?_ (fun _ => ?_)
    · intro y0 y1 y2 y3 y4 y5 y6 y7
      unfold schema_parser_form.j3
      repeat' first
      | (with_reducible exact ih0 _ _ _)
      | (with_reducible exact ih1 _ _ _ _)
      | (with_reducible exact ih2 _ _ _ _ _ _ _ _)
      | (with_reducible exact ih3 _ _ _ _ _ _ _ _)
      | (with_reducible exact ih4 _ _ _ _ _ _ _ _)
      | (with_reducible exact jh0 _ _ _ _)
      | (with_reducible exact schema_parser_number.mono _ _ _)
      | (with_reducible exact LeO.refl _)
      | (with_reducible exact LeO.none _)
      | (with_reducible refine LeO.ite ?_ ?_)
      | (with_reducible refine LeO.bind ?_ (fun _ => ?_))
      | exact ih0 _ _ _
      | exact ih1 _ _ _ _
      | exact ih2 _ _ _ _ _ _ _ _
      | exact ih3 _ _ _ _ _ _ _ _
      | exact ih4 _ _ _ _ _ _ _ _
      | exact jh0 _ _ _ _
      | exact schema_parser_number.mono _ _ _
      | exact LeO.none _
      | refine LeO.ite ?_ ?_
      | refine LeO.bind ?_ (fun _ => ?_)
    · intro y0 y1 y2 y3
      unfold schema_parser_arms.l0
      repeat' first
      | (with_reducible exact jh0 _ _ _ _)
      | (with_reducible exact jh1 _ _ _ _ _ _)
      | (with_reducible exact jh2 _ _ _ _ _ _ _ _ _)
      | (with_reducible exact ih0 _ _ _)
      | (with_reducible exact schema_parser_number.mono _ _ _)
      | (with_reducible exact LeO.refl _)
      | (with_reducible exact LeO.none _)
      | (with_reducible refine LeO.ite ?_ ?_)
      | (with_reducible refine LeO.bind ?_ (fun _ => ?_))
      | exact jh0 _ _ _ _
      | exact jh1 _ _ _ _ _ _
      | exact jh2 _ _ _ _ _ _ _ _ _
      | exact ih0 _ _ _
      | exact schema_parser_number.mono _ _ _
      | exact LeO.none _
      | refine LeO.ite ?_ ?_
      | refine LeO.bind ?_ (fun _ => ?_)
    · intro y0 y1 y2 y3 y4 y5
      unfold schema_parser_arms.j1
      repeat' first
      | (with_reducible exact jh0 _ _ _ _)
      | (with_reducible exact jh1 _ _ _ _ _ _)
      | (with_reducible exact jh2 _ _ _ _ _ _ _ _ _)
      | (with_reducible exact ih0 _ _ _)
      | (with_reducible exact schema_parser_number.mono _ _ _)
      | (with_reducible exact LeO.refl _)
      | (with_reducible exact LeO.none _)
      | (with_reducible refine LeO.ite ?_ ?_)
      | (with_reducible refine LeO.bind ?_ (fun _ => ?_))
      | exact jh0 _ _ _ _
      | exact jh1 _ _ _ _ _ _
      | exact jh2 _ _ _ _ _ _ _ _ _
      | exact ih0 _ _ _
      | exact schema_parser_number.mono _ _ _
      | exact LeO.none _
      | refine LeO.ite ?_ ?_
      | refine LeO.bind ?_ (fun _ => ?_)
    · intro y0 y1 y2 y3 y4 y5 y6 y7 y8
      unfold schema_parser_arms.l1
      repeat' first
      | (with_reducible exact jh0 _ _ _ _)
      | (with_reducible exact jh1 _ _ _ _ _ _)
      | (with_reducible exact jh2 _ _ _ _ _ _ _ _ _)
      | (with_reducible exact ih0 _ _ _)
      | (with_reducible exact schema_parser_number.mono _ _ _)
      | (with_reducible exact LeO.refl _)
      | (with_reducible exact LeO.none _)
      | (with_reducible refine LeO.ite ?_ ?_)
      | (with_reducible refine LeO.bind ?_ (fun _ => ?_))
      | exact jh0 _ _ _ _
      | exact jh1 _ _ _ _ _ _
      | exact jh2 _ _ _ _ _ _ _ _ _
      | exact ih0 _ _ _
      | exact schema_parser_number.mono _ _ _
      | exact LeO.none _
      | refine LeO.ite ?_ ?_
      | refine LeO.bind ?_ (fun _ => ?_)
theorem schema_parser_form.mono_l (k : Nat) : (∀ y0 y1 y2, LeO (schema_parser_form.f k y0 y1 y2) (schema_parser_form.f (k + 1) y0 y1 y2)) ∧ (∀ y0 y1 y2 y3, LeO (schema_parser_form.l0 k y0 y1 y2 y3) (schema_parser_form.l0 (k + 1) y0 y1 y2 y3)) ∧ (∀ y0 y1 y2 y3 y4 y5 y6 y7, LeO (schema_parser_form.j1 k y0 y1 y2 y3 y4 y5 y6 y7) (schema_parser_form.j1 (k + 1) y0 y1 y2 y3 y4 y5 y6 y7)) ∧ (∀ y0 y1 y2 y3 y4 y5 y6 y7, LeO (schema_parser_form.j2 k y0 y1 y2 y3 y4 y5 y6 y7) (schema_parser_form.j2 (k + 1) y0 y1 y2 y3 y4 y5 y6 y7)) ∧ (∀ y0 y1 y2 y3 y4 y5 y6 y7, LeO (schema_parser_form.j3 k y0 y1 y2 y3 y4 y5 y6 y7) (schema_parser_form.j3 (k + 1) y0 y1 y2 y3 y4 y5 y6 y7)) := (schema_parser_form.both_l k).1
theorem schema_parser_arms.mono_l (k : Nat) : (∀ y0 y1 y2 y3, LeO (schema_parser_arms.l0 k y0 y1 y2 y3) (schema_parser_arms.l0 (k + 1) y0 y1 y2 y3)) ∧ (∀ y0 y1 y2 y3 y4 y5, LeO (schema_parser_arms.j1 k y0 y1 y2 y3 y4 y5) (schema_parser_arms.j1 (k + 1) y0 y1 y2 y3 y4 y5)) ∧ (∀ y0 y1 y2 y3 y4 y5 y6 y7 y8, LeO (schema_parser_arms.l1 k y0 y1 y2 y3 y4 y5 y6 y7 y8) (schema_parser_arms.l1 (k + 1) y0 y1 y2 y3 y4 y5 y6 y7 y8)) := (schema_parser_form.both_l k).2
theorem schema_parser_form.mono : ∀ a0 a1 a2 k, LeO (schema_parser_form.f k a0 a1 a2) (schema_parser_form.f (k + 1) a0 a1 a2) := by
  intro a0 a1 a2 k
  obtain ⟨ih0, ih1, ih2, ih3, ih4⟩ := schema_parser_form.mono_l k
  exact ih0 a0 a1 a2
theorem schema_parser_arms.mono : ∀ a0 a1 a2 k, LeO (schema_parser_arms.f k a0 a1 a2) (schema_parser_arms.f (k + 1) a0 a1 a2) := by
  intro a0 a1 a2 k
  obtain ⟨ih0, ih1, ih2⟩ := schema_parser_arms.mono_l k
  unfold schema_parser_arms.f
  repeat' first
      | (with_reducible exact ih0 _ _ _ _)
      | (with_reducible exact ih1 _ _ _ _ _ _)
      | (with_reducible exact ih2 _ _ _ _ _ _ _ _ _)
      | (with_reducible exact schema_parser_form.mono _ _ _ _)
      | (with_reducible exact schema_parser_number.mono _ _ _)
      | (with_reducible exact LeO.refl _)
      | (with_reducible exact LeO.none _)
      | (with_reducible refine LeO.ite ?_ ?_)
      | (with_reducible refine LeO.bind ?_ (fun _ => ?_))
      | exact ih0 _ _ _ _
      | exact ih1 _ _ _ _ _ _
      | exact ih2 _ _ _ _ _ _ _ _ _
      | exact schema_parser_form.mono _ _ _ _
      | exact schema_parser_number.mono _ _ _
      | exact LeO.none _
      | refine LeO.ite ?_ ?_
      | refine LeO.bind ?_ (fun _ => ?_)

end Go.Proofs.YthamffpieafkbaaGreatDoor.PA
