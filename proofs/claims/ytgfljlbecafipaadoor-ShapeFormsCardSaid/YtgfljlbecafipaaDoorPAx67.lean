-- printed by a program of this session (wip/tools), over the translation
import Derived.Test.YtgfljlbecafipaaDoorPAx0
import Derived.Test.YtgfljlbecafipaaDoorPAx66
namespace Go.Proofs.YtgfljlbecafipaaDoor.PA
open Go.RowKit Go.Proofs.YtgfljlbecafipaaDoorW.PrintWords Go.Proofs.YtgfljlbecafipaaDoorW.PrintLast Go.Proofs.YtgfljlbecafipaaDoorW.PrintMore
attribute [local go_sem] max2_int min2_int max_two min_two max_three min_three max_four min_four   -- for this text's walks alone
set_option linter.unusedVariables false
set_option linter.unusedSimpArgs false

/-! ### coracleref10_Of: function 6 -/
def coracleref10_Of.j0 : Nat → Int → Int → Bool → Option (ByteArray × ByteArray × Bool)
  | 0, _, _, _ => none
  | k + 1, x0, x1, x21 => if x21 = true then ((coracleref10_nfs.f k x1).bind fun bt109 => (if 3 + bt109.2.1.size ≤ 9223372036854775807 then (if ((⟨#[60, 48, 58]⟩ : ByteArray) ++ bt109.2.1).size + 3 ≤ 9223372036854775807 then (if (((⟨#[60, 48, 58]⟩ : ByteArray) ++ bt109.2.1) ++ (⟨#[44, 45, 58]⟩ : ByteArray)).size + bt109.2.2.size ≤ 9223372036854775807 then (if ((((⟨#[60, 48, 58]⟩ : ByteArray) ++ bt109.2.1) ++ (⟨#[44, 45, 58]⟩ : ByteArray)) ++ bt109.2.2).size + 1 ≤ 9223372036854775807 then (some (bt109.1, ((((⟨#[60, 48, 58]⟩ : ByteArray) ++ bt109.2.1) ++ (⟨#[44, 45, 58]⟩ : ByteArray)) ++ bt109.2.2) ++ (⟨#[62]⟩ : ByteArray), true)) else (none)) else (none)) else (none)) else (none))) else (if x0 = 100005 then (if x1 ≥ 1 then (if x1 ≤ 5 then ((some (([(⟨#[111, 49, 48, 50, 52]⟩ : ByteArray), (⟨#[]⟩ : ByteArray), (⟨#[111, 49, 48, 50, 52]⟩ : ByteArray), (⟨#[]⟩ : ByteArray), (⟨#[]⟩ : ByteArray)] : List ByteArray) : List ByteArray)).bind fun y112 => ((some (([(⟨#[60, 48, 58, 111, 54, 52, 60, 49, 58, 117, 62, 44, 45, 58, 62]⟩ : ByteArray), (⟨#[42, 40, 111, 50, 53, 53, 111, 49, 48, 50, 52, 41]⟩ : ByteArray), (⟨#[]⟩ : ByteArray), (⟨#[]⟩ : ByteArray), (⟨#[42, 40, 111, 49, 48, 50, 52, 42, 40, 111, 50, 53, 53, 41, 41]⟩ : ByteArray)] : List ByteArray) : List ByteArray)).bind fun y115 => (if 0 ≤ (wrap64 (x1 - 1)) then (if (wrap64 (x1 - 1)) < (y112.length : Int) then (if (wrap64 (x1 - 1)) < (y115.length : Int) then (some (rdOf ByteArray.empty y112 (wrap64 (x1 - 1)), rdOf ByteArray.empty y115 (wrap64 (x1 - 1)), true)) else (none)) else (none)) else (none)))) else (if x1 = 0 then (if x0 = 100003 then (some ((⟨#[]⟩ : ByteArray), (⟨#[]⟩ : ByteArray), true)) else (some ((⟨#[]⟩ : ByteArray), (⟨#[]⟩ : ByteArray), (x0 == 100005)))) else (some ((⟨#[]⟩ : ByteArray), (⟨#[]⟩ : ByteArray), false)))) else (if x1 = 0 then (if x0 = 100003 then (some ((⟨#[]⟩ : ByteArray), (⟨#[]⟩ : ByteArray), true)) else (some ((⟨#[]⟩ : ByteArray), (⟨#[]⟩ : ByteArray), (x0 == 100005)))) else (some ((⟨#[]⟩ : ByteArray), (⟨#[]⟩ : ByteArray), false)))) else (if x1 = 0 then (if x0 = 100003 then (some ((⟨#[]⟩ : ByteArray), (⟨#[]⟩ : ByteArray), true)) else (some ((⟨#[]⟩ : ByteArray), (⟨#[]⟩ : ByteArray), (x0 == 100005)))) else (some ((⟨#[]⟩ : ByteArray), (⟨#[]⟩ : ByteArray), false))))
def coracleref10_Of.f (k : Nat) (a0 : Int) (a1 : Int) : Option (ByteArray × ByteArray × Bool) := if a0 = 100003 then (if a1 ≥ 1 then (coracleref10_Of.j0 k a0 a1 (decide (a1 ≤ 21))) else (coracleref10_Of.j0 k a0 a1 false)) else (coracleref10_Of.j0 k a0 a1 false)
theorem coracleref10_Of.mono_l : ∀ k, (∀ y0 y1 y2, LeO (coracleref10_Of.j0 k y0 y1 y2) (coracleref10_Of.j0 (k + 1) y0 y1 y2))
  | 0 => fun _ _ _ r h => by simp [coracleref10_Of.j0] at h
  | k + 1 => by
    have ih0 := coracleref10_Of.mono_l k
    · intro y0 y1 y2
      unfold coracleref10_Of.j0
      repeat' first
      | (with_reducible exact ih0 _ _ _)
      | (with_reducible exact coracleref10_nfs.mono _ _)
      | (with_reducible exact LeO.refl _)
      | (with_reducible exact LeO.none _)
      | (with_reducible refine LeO.ite ?_ ?_)
      | (with_reducible refine LeO.bind ?_ (fun _ => ?_))
      | exact ih0 _ _ _
      | exact coracleref10_nfs.mono _ _
      | exact LeO.none _
      | refine LeO.ite ?_ ?_
      | refine LeO.bind ?_ (fun _ => ?_)
theorem coracleref10_Of.mono : ∀ a0 a1 k, LeO (coracleref10_Of.f k a0 a1) (coracleref10_Of.f (k + 1) a0 a1) := by
  intro a0 a1 k
  have ih0 := coracleref10_Of.mono_l k
  unfold coracleref10_Of.f
  repeat' first
      | (with_reducible exact ih0 _ _ _)
      | (with_reducible exact coracleref10_nfs.mono _ _)
      | (with_reducible exact LeO.refl _)
      | (with_reducible exact LeO.none _)
      | (with_reducible refine LeO.ite ?_ ?_)
      | (with_reducible refine LeO.bind ?_ (fun _ => ?_))
      | exact ih0 _ _ _
      | exact coracleref10_nfs.mono _ _
      | exact LeO.none _
      | refine LeO.ite ?_ ?_
      | refine LeO.bind ?_ (fun _ => ?_)
set_option maxHeartbeats 8000000 in
set_option maxRecDepth 100000 in
theorem coracleref10_Of.calls (k : Nat) (a0 : Int) (a1 : Int) (r1 : ByteArray) (r2 : ByteArray) (r3 : Bool) (w : World) (h : coracleref10_Of.f k a0 a1 = some (r1, r2, r3)) :
    Calls Tryd.prog 6 #[.int .i64 a0, .int .i64 a1] w fun e w' => e = .returned (.tuple #[.string r1, .string r2, .bool r3]) ∧ Below w.heap.size w w' := by
  have HB := Aside0.mk (Below.refl w.heap.size w)
  have H : (if a0 = 100003 then (if a1 ≥ 1 then (coracleref10_Of.j0 k a0 a1 (decide (a1 ≤ 21))) else (coracleref10_Of.j0 k a0 a1 false)) else (coracleref10_Of.j0 k a0 a1 false)) = some (r1, r2, r3) := h
  clear h
  have HC3 := Aside0.mk H
  clear H
  go_enter Tryd.func6, Tryd.ntmps6
  go_upto_region 1 with (fail)
  repeat (go_quiet (fail); go_upto_region 1 with (fail))
  go_cut [21] (fun v21 wc => ∃ (kq : Nat) (x21_2 : Bool), v21 = .bool x21_2 ∧ Aside0 (coracleref10_Of.j0 kq a0 a1 x21_2 = some (r1, r2, r3)) ∧ Aside0 (kq ≤ k) ∧ Aside0 (Below w.heap.size w wc))
  case first =>
    have H := HC3.out
    clear HC3
    by_cases c4 : a0 = 100003
    · rw [if_pos c4] at H
      have c4b0 : (a0 == 100003) = true := beq_iff_eq.mpr c4
      have c4b1 : (a0 != 100003) = false := bne_eq_false_iff_eq.mpr c4
      clear c4
      (first | rw [c4b0] | (simp only [i64_w, i32_w]; rw [c4b0]) | skip)
      by_cases c5 : a1 ≥ 1
      · rw [if_pos c5] at H
        have c5b0 : decide (1 ≤ a1) = true := decide_eq_true c5
        clear c5
        have H' := Aside0.mk H
        clear H
        go_wp2
        repeat (go_quiet (fail); try go_wp2)
        go_meet
        case rel => exact ⟨_, (decide (a1 ≤ 21)), (by first | rfl | (simp; done) | (simp [*]; done)), H', ⟨by first | omega | exact Nat.le_refl _⟩, ⟨by repeat (first | (with_reducible first | exact HB.out | apply below_alloc | apply pw_below_drewN | apply below_drew1) | exact HB.out)⟩⟩
      · rw [if_neg c5] at H
        have c5b0 : decide (1 ≤ a1) = false := decide_eq_false c5
        clear c5
        have H' := Aside0.mk H
        clear H
        go_wp2
        repeat (go_quiet (fail); try go_wp2)
        go_meet
        case rel => exact ⟨_, (false), (by first | rfl | (simp; done) | (simp [*]; done)), H', ⟨by first | omega | exact Nat.le_refl _⟩, ⟨by repeat (first | (with_reducible first | exact HB.out | apply below_alloc | apply pw_below_drewN | apply below_drew1) | exact HB.out)⟩⟩
    · rw [if_neg c4] at H
      have c4b0 : (a0 == 100003) = false := beq_eq_false_iff_ne.mpr c4
      have c4b1 : (a0 != 100003) = true := bne_iff_ne.mpr c4
      (first | rw [c4b0] | (simp only [i64_w, i32_w]; rw [c4b0]) | skip)
      have H' := Aside0.mk H
      clear H
      go_wp2
      repeat (go_quiet (fail); try go_wp2)
      go_meet
      case rel => exact ⟨_, (false), (by first | rfl | (simp; done) | (simp [*]; done)), H', ⟨by first | omega | exact Nat.le_refl _⟩, ⟨by repeat (first | (with_reducible first | exact HB.out | apply below_alloc | apply pw_below_drewN | apply below_drew1) | exact HB.out)⟩⟩
  case rest =>
    clear HC3
    try clear p2
    try clear c4
    try clear c4b0
    try clear c4b1
    try clear c5
    try clear c5b0
    obtain ⟨kq, x21_2, rfl, HA, HJ2, HB⟩ := hcut
    cases kq with
    | zero => exact absurd HA.out (by simp [coracleref10_Of.j0])
    | succ kj2 =>
      have H := HA.out
      clear HA
      simp only [coracleref10_Of.j0] at H
      by_cases c6 : x21_2 = true
      · subst c6
        have H1 : ((coracleref10_nfs.f kj2 a1).bind fun bt109 => (if 3 + bt109.2.1.size ≤ 9223372036854775807 then (if ((⟨#[60, 48, 58]⟩ : ByteArray) ++ bt109.2.1).size + 3 ≤ 9223372036854775807 then (if (((⟨#[60, 48, 58]⟩ : ByteArray) ++ bt109.2.1) ++ (⟨#[44, 45, 58]⟩ : ByteArray)).size + bt109.2.2.size ≤ 9223372036854775807 then (if ((((⟨#[60, 48, 58]⟩ : ByteArray) ++ bt109.2.1) ++ (⟨#[44, 45, 58]⟩ : ByteArray)) ++ bt109.2.2).size + 1 ≤ 9223372036854775807 then (some (bt109.1, ((((⟨#[60, 48, 58]⟩ : ByteArray) ++ bt109.2.1) ++ (⟨#[44, 45, 58]⟩ : ByteArray)) ++ bt109.2.2) ++ (⟨#[62]⟩ : ByteArray), true)) else (none)) else (none)) else (none)) else (none))) = some (r1, r2, r3) := by rw [if_pos rfl] at H; exact H
        clear H
        have H := H1
        clear H1
        replace H := Option.bind_eq_some_iff.mp H
        obtain ⟨⟨t109, t110, t111⟩, A70, H⟩ := H
        replace H : (if 3 + t110.size ≤ 9223372036854775807 then (if ((⟨#[60, 48, 58]⟩ : ByteArray) ++ t110).size + 3 ≤ 9223372036854775807 then (if (((⟨#[60, 48, 58]⟩ : ByteArray) ++ t110) ++ (⟨#[44, 45, 58]⟩ : ByteArray)).size + t111.size ≤ 9223372036854775807 then (if ((((⟨#[60, 48, 58]⟩ : ByteArray) ++ t110) ++ (⟨#[44, 45, 58]⟩ : ByteArray)) ++ t111).size + 1 ≤ 9223372036854775807 then (some (t109, ((((⟨#[60, 48, 58]⟩ : ByteArray) ++ t110) ++ (⟨#[44, 45, 58]⟩ : ByteArray)) ++ t111) ++ (⟨#[62]⟩ : ByteArray), true)) else (none)) else (none)) else (none)) else (none)) = some (r1, r2, r3) := H
        have A7 := Aside0.mk A70
        clear A70
        by_cases c8 : 3 + t110.size ≤ 9223372036854775807
        · rw [if_pos c8] at H
          have c8b0 := eq_true c8
          have c8b1 : decide (3 + t110.size ≤ 9223372036854775807) = true := decide_eq_true c8
          try have c8b2 : (9223372036854775807 < 3 + t110.size) = False := eq_false (Nat.not_lt.2 c8)
          by_cases c9 : ((⟨#[60, 48, 58]⟩ : ByteArray) ++ t110).size + 3 ≤ 9223372036854775807
          · rw [if_pos c9] at H
            have c9b0 := eq_true c9
            try have c9z : ¬ (9223372036854775807 < 3 + t110.size + 3) := by have h_ := c9; simp only [ByteArray.size_append] at h_; have e0_ : (⟨#[60, 48, 58]⟩ : ByteArray).size = 3 := rfl; omega
            have c9b1 : decide (((⟨#[60, 48, 58]⟩ : ByteArray) ++ t110).size + 3 ≤ 9223372036854775807) = true := decide_eq_true c9
            try have c9b2 : (9223372036854775807 < ((⟨#[60, 48, 58]⟩ : ByteArray) ++ t110).size + 3) = False := eq_false (Nat.not_lt.2 c9)
            by_cases c10 : (((⟨#[60, 48, 58]⟩ : ByteArray) ++ t110) ++ (⟨#[44, 45, 58]⟩ : ByteArray)).size + t111.size ≤ 9223372036854775807
            · rw [if_pos c10] at H
              have c10b0 := eq_true c10
              try have c10z : ¬ (9223372036854775807 < 3 + t110.size + 3 + t111.size) := by have h_ := c10; simp only [ByteArray.size_append] at h_; have e0_ : (⟨#[44, 45, 58]⟩ : ByteArray).size = 3 := rfl; have e1_ : (⟨#[60, 48, 58]⟩ : ByteArray).size = 3 := rfl; omega
              have c10b1 : decide ((((⟨#[60, 48, 58]⟩ : ByteArray) ++ t110) ++ (⟨#[44, 45, 58]⟩ : ByteArray)).size + t111.size ≤ 9223372036854775807) = true := decide_eq_true c10
              try have c10b2 : (9223372036854775807 < (((⟨#[60, 48, 58]⟩ : ByteArray) ++ t110) ++ (⟨#[44, 45, 58]⟩ : ByteArray)).size + t111.size) = False := eq_false (Nat.not_lt.2 c10)
              by_cases c11 : ((((⟨#[60, 48, 58]⟩ : ByteArray) ++ t110) ++ (⟨#[44, 45, 58]⟩ : ByteArray)) ++ t111).size + 1 ≤ 9223372036854775807
              · rw [if_pos c11] at H
                have c11b0 := eq_true c11
                try have c11z : ¬ (9223372036854775807 < 3 + t110.size + 3 + t111.size + 1) := by have h_ := c11; simp only [ByteArray.size_append] at h_; have e0_ : (⟨#[44, 45, 58]⟩ : ByteArray).size = 3 := rfl; have e1_ : (⟨#[60, 48, 58]⟩ : ByteArray).size = 3 := rfl; omega
                have c11b1 : decide (((((⟨#[60, 48, 58]⟩ : ByteArray) ++ t110) ++ (⟨#[44, 45, 58]⟩ : ByteArray)) ++ t111).size + 1 ≤ 9223372036854775807) = true := decide_eq_true c11
                try have c11b2 : (9223372036854775807 < ((((⟨#[60, 48, 58]⟩ : ByteArray) ++ t110) ++ (⟨#[44, 45, 58]⟩ : ByteArray)) ++ t111).size + 1) = False := eq_false (Nat.not_lt.2 c11)
                simp only [Option.some.injEq, Prod.mk.injEq] at H
                obtain ⟨rfl, rfl, rfl⟩ := H
                go_wp2_with (first | (go_at_call 12; (with_reducible refine (coracleref10_nfs.calls kj2 a1 t109 t110 t111 _ A7.out).mono ?_); rintro e w' ⟨rfl, ⟨nd, rfl⟩⟩; (try first | exact ⟨rfl, _, World.drewN_drewN _ _ _⟩ | exact ⟨rfl, _, Eq.trans (World.drewN_drewN _ _ _) (congrArg (World.drewN _) (Nat.add_assoc _ _ _))⟩)))
                repeat (go_quiet (first | (go_at_call 12; (with_reducible refine (coracleref10_nfs.calls kj2 a1 t109 t110 t111 _ A7.out).mono ?_); rintro e w' ⟨rfl, ⟨nd, rfl⟩⟩; (try first | exact ⟨rfl, _, World.drewN_drewN _ _ _⟩ | exact ⟨rfl, _, Eq.trans (World.drewN_drewN _ _ _) (congrArg (World.drewN _) (Nat.add_assoc _ _ _))⟩))); try go_wp2_with (first | (go_at_call 12; (with_reducible refine (coracleref10_nfs.calls kj2 a1 t109 t110 t111 _ A7.out).mono ?_); rintro e w' ⟨rfl, ⟨nd, rfl⟩⟩; (try first | exact ⟨rfl, _, World.drewN_drewN _ _ _⟩ | exact ⟨rfl, _, Eq.trans (World.drewN_drewN _ _ _) (congrArg (World.drewN _) (Nat.add_assoc _ _ _))⟩))))
                go_ret3
                exact ⟨by first | rfl | (simp [errW_none, errW_some] <;> rfl) | (simp [*, errW_none, errW_some] <;> rfl), by repeat (first | (with_reducible first | exact HB.out | apply below_alloc | apply pw_below_drewN | apply below_drew1) | exact HB.out)⟩
              · rw [if_neg c11] at H
                exact absurd H (by simp)
            · rw [if_neg c10] at H
              exact absurd H (by simp)
          · rw [if_neg c9] at H
            exact absurd H (by simp)
        · rw [if_neg c8] at H
          exact absurd H (by simp)
      · replace c6 := Bool.eq_false_iff.mpr c6
        subst c6
        have H1 : (if a0 = 100005 then (if a1 ≥ 1 then (if a1 ≤ 5 then ((some (([(⟨#[111, 49, 48, 50, 52]⟩ : ByteArray), (⟨#[]⟩ : ByteArray), (⟨#[111, 49, 48, 50, 52]⟩ : ByteArray), (⟨#[]⟩ : ByteArray), (⟨#[]⟩ : ByteArray)] : List ByteArray) : List ByteArray)).bind fun y112 => ((some (([(⟨#[60, 48, 58, 111, 54, 52, 60, 49, 58, 117, 62, 44, 45, 58, 62]⟩ : ByteArray), (⟨#[42, 40, 111, 50, 53, 53, 111, 49, 48, 50, 52, 41]⟩ : ByteArray), (⟨#[]⟩ : ByteArray), (⟨#[]⟩ : ByteArray), (⟨#[42, 40, 111, 49, 48, 50, 52, 42, 40, 111, 50, 53, 53, 41, 41]⟩ : ByteArray)] : List ByteArray) : List ByteArray)).bind fun y115 => (if 0 ≤ (wrap64 (a1 - 1)) then (if (wrap64 (a1 - 1)) < (y112.length : Int) then (if (wrap64 (a1 - 1)) < (y115.length : Int) then (some (rdOf ByteArray.empty y112 (wrap64 (a1 - 1)), rdOf ByteArray.empty y115 (wrap64 (a1 - 1)), true)) else (none)) else (none)) else (none)))) else (if a1 = 0 then (if a0 = 100003 then (some ((⟨#[]⟩ : ByteArray), (⟨#[]⟩ : ByteArray), true)) else (some ((⟨#[]⟩ : ByteArray), (⟨#[]⟩ : ByteArray), (a0 == 100005)))) else (some ((⟨#[]⟩ : ByteArray), (⟨#[]⟩ : ByteArray), false)))) else (if a1 = 0 then (if a0 = 100003 then (some ((⟨#[]⟩ : ByteArray), (⟨#[]⟩ : ByteArray), true)) else (some ((⟨#[]⟩ : ByteArray), (⟨#[]⟩ : ByteArray), (a0 == 100005)))) else (some ((⟨#[]⟩ : ByteArray), (⟨#[]⟩ : ByteArray), false)))) else (if a1 = 0 then (if a0 = 100003 then (some ((⟨#[]⟩ : ByteArray), (⟨#[]⟩ : ByteArray), true)) else (some ((⟨#[]⟩ : ByteArray), (⟨#[]⟩ : ByteArray), (a0 == 100005)))) else (some ((⟨#[]⟩ : ByteArray), (⟨#[]⟩ : ByteArray), false)))) = some (r1, r2, r3) := by rw [if_neg (show ¬ (false = true) by decide)] at H; exact H
        clear H
        have H := H1
        clear H1
        by_cases c12 : a0 = 100005
        · rw [if_pos c12] at H
          have c12b0 : (a0 == 100005) = true := beq_iff_eq.mpr c12
          have c12b1 : (a0 != 100005) = false := bne_eq_false_iff_eq.mpr c12
          clear c12
          by_cases c13 : a1 ≥ 1
          · rw [if_pos c13] at H
            have c13b0 : decide (1 ≤ a1) = true := decide_eq_true c13
            clear c13
            by_cases c14 : a1 ≤ 5
            · rw [if_pos c14] at H
              have c14b0 : decide (a1 ≤ 5) = true := decide_eq_true c14
              clear c14
              obtain ⟨y112, hy112⟩ : ∃ y_ : List ByteArray, y_ = (([(⟨#[111, 49, 48, 50, 52]⟩ : ByteArray), (⟨#[]⟩ : ByteArray), (⟨#[111, 49, 48, 50, 52]⟩ : ByteArray), (⟨#[]⟩ : ByteArray), (⟨#[]⟩ : ByteArray)] : List ByteArray)) := ⟨_, rfl⟩
              replace H : ((some (([(⟨#[60, 48, 58, 111, 54, 52, 60, 49, 58, 117, 62, 44, 45, 58, 62]⟩ : ByteArray), (⟨#[42, 40, 111, 50, 53, 53, 111, 49, 48, 50, 52, 41]⟩ : ByteArray), (⟨#[]⟩ : ByteArray), (⟨#[]⟩ : ByteArray), (⟨#[42, 40, 111, 49, 48, 50, 52, 42, 40, 111, 50, 53, 53, 41, 41]⟩ : ByteArray)] : List ByteArray) : List ByteArray)).bind fun y115 => (if 0 ≤ (wrap64 (a1 - 1)) then (if (wrap64 (a1 - 1)) < (y112.length : Int) then (if (wrap64 (a1 - 1)) < (y115.length : Int) then (some (rdOf ByteArray.empty y112 (wrap64 (a1 - 1)), rdOf ByteArray.empty y115 (wrap64 (a1 - 1)), true)) else (none)) else (none)) else (none))) = some (r1, r2, r3) := by first | (rw [hy112]; with_reducible exact H) | (have H2_ := (Option.bind_some _ _).symm.trans H; rw [hy112]; with_reducible exact H2_) | (have H2_ := (Option.bind_some _ _).symm.trans H; with_reducible exact H2_) | with_reducible exact H | (rw [hy112]; exact H) | exact H
              have Ny112 := Aside0.mk hy112
              clear hy112
              obtain ⟨y115, hy115⟩ : ∃ y_ : List ByteArray, y_ = (([(⟨#[60, 48, 58, 111, 54, 52, 60, 49, 58, 117, 62, 44, 45, 58, 62]⟩ : ByteArray), (⟨#[42, 40, 111, 50, 53, 53, 111, 49, 48, 50, 52, 41]⟩ : ByteArray), (⟨#[]⟩ : ByteArray), (⟨#[]⟩ : ByteArray), (⟨#[42, 40, 111, 49, 48, 50, 52, 42, 40, 111, 50, 53, 53, 41, 41]⟩ : ByteArray)] : List ByteArray)) := ⟨_, rfl⟩
              replace H : (if 0 ≤ (wrap64 (a1 - 1)) then (if (wrap64 (a1 - 1)) < (y112.length : Int) then (if (wrap64 (a1 - 1)) < (y115.length : Int) then (some (rdOf ByteArray.empty y112 (wrap64 (a1 - 1)), rdOf ByteArray.empty y115 (wrap64 (a1 - 1)), true)) else (none)) else (none)) else (none)) = some (r1, r2, r3) := by first | (rw [hy115]; with_reducible exact H) | (have H2_ := (Option.bind_some _ _).symm.trans H; rw [hy115]; with_reducible exact H2_) | (have H2_ := (Option.bind_some _ _).symm.trans H; with_reducible exact H2_) | with_reducible exact H | (rw [hy115]; exact H) | exact H
              have Ny115 := Aside0.mk hy115
              clear hy115
              obtain ⟨ji15, hji15⟩ : ∃ j_ : Int, (wrap64 (a1 - 1)) = j_ := ⟨_, rfl⟩
              replace H : (if 0 ≤ (ji15) then (if (ji15) < (y112.length : Int) then (if (ji15) < (y115.length : Int) then (some (rdOf ByteArray.empty y112 (ji15), rdOf ByteArray.empty y115 (ji15), true)) else (none)) else (none)) else (none)) = some (r1, r2, r3) := by first | (rw [hji15] at H; exact H) | (simp only [hji15] at H ⊢; exact H)
              have hji15w : (IntKind.i64.wrap (a1 - 1)) = ji15 := (i64_w _).trans hji15
              by_cases c16 : 0 ≤ (ji15)
              · rw [if_pos c16] at H
                have c16b0 : decide (0 ≤ (ji15)) = true := decide_eq_true c16
                clear c16
                by_cases c17 : (ji15) < (y112.length : Int)
                · rw [if_pos c17] at H
                  have c17b0 : decide ((ji15) < (y112.length : Int)) = true := decide_eq_true c17
                  clear c17
                  by_cases c18 : (ji15) < (y115.length : Int)
                  · rw [if_pos c18] at H
                    have c18b0 : decide ((ji15) < (y115.length : Int)) = true := decide_eq_true c18
                    clear c18
                    simp only [Option.some.injEq, Prod.mk.injEq] at H
                    obtain ⟨rfl, rfl, rfl⟩ := H
                    go_wp2_with (first | ((with_reducible refine gate_dst (N := 45) rfl ?_); refine Kd.R_lit Kd.string _ 9 ?hg (N := 45) ?hd (xs := ([(⟨#[111, 49, 48, 50, 52]⟩ : ByteArray), (⟨#[]⟩ : ByteArray), (⟨#[111, 49, 48, 50, 52]⟩ : ByteArray), (⟨#[]⟩ : ByteArray), (⟨#[]⟩ : ByteArray)] : List ByteArray)) (inner := [.string (⟨#[111, 49, 48, 50, 52]⟩ : ByteArray), .string (⟨#[]⟩ : ByteArray), .string (⟨#[111, 49, 48, 50, 52]⟩ : ByteArray), .string (⟨#[]⟩ : ByteArray), .string (⟨#[]⟩ : ByteArray)]) (ok := fun _ => True) (okp := fun _ => True) ?hr ?hp (fun _ hk => hk) trivial (Below.refl _ _) (Nat.le_refl _) (by simp) ?_; (case hd => rfl); (case hg => rfl); (case hr => first | (go_simp; done) | (go_simp; rfl)); (case hp => exact (Reps.one (show Kd.M Kd.string _ _ _ (⟨#[111, 49, 48, 50, 52]⟩ : ByteArray) [.string (⟨#[111, 49, 48, 50, 52]⟩ : ByteArray)] from rfl) (Reps.one (show Kd.M Kd.string _ _ _ (⟨#[]⟩ : ByteArray) [.string (⟨#[]⟩ : ByteArray)] from rfl) (Reps.one (show Kd.M Kd.string _ _ _ (⟨#[111, 49, 48, 50, 52]⟩ : ByteArray) [.string (⟨#[111, 49, 48, 50, 52]⟩ : ByteArray)] from rfl) (Reps.one (show Kd.M Kd.string _ _ _ (⟨#[]⟩ : ByteArray) [.string (⟨#[]⟩ : ByteArray)] from rfl) (Reps.one (show Kd.M Kd.string _ _ _ (⟨#[]⟩ : ByteArray) [.string (⟨#[]⟩ : ByteArray)] from rfl) (Reps.none _ _))))))); intro v113 w19 ho20 hb hg_ hnew_; clear hg_ hnew_; (first | rw [← Ny112.out] at ho20 | (simp only [Int.reduceToNat] at ho20; rw [← Ny112.out] at ho20)); have n0_ := Aside0.mk (Kd.R_lower ho20 (below_size (by repeat (first | (with_reducible first | exact HB.out | apply below_alloc | apply pw_below_drewN | apply below_drew1) | exact HB.out)))); have n1_ := Aside0.mk (below_step (by repeat (first | (with_reducible first | exact HB.out | apply below_alloc | apply pw_below_drewN | apply below_drew1) | exact HB.out)) hb); clear HB; have HO114 := n0_; have HB := n1_; clear n0_ n1_; clear hb ho20) | ((with_reducible refine gate_dst (N := 46) rfl ?_); refine Kd.R_lit Kd.string _ 9 ?hg (N := 46) ?hd (xs := ([(⟨#[60, 48, 58, 111, 54, 52, 60, 49, 58, 117, 62, 44, 45, 58, 62]⟩ : ByteArray), (⟨#[42, 40, 111, 50, 53, 53, 111, 49, 48, 50, 52, 41]⟩ : ByteArray), (⟨#[]⟩ : ByteArray), (⟨#[]⟩ : ByteArray), (⟨#[42, 40, 111, 49, 48, 50, 52, 42, 40, 111, 50, 53, 53, 41, 41]⟩ : ByteArray)] : List ByteArray)) (inner := [.string (⟨#[60, 48, 58, 111, 54, 52, 60, 49, 58, 117, 62, 44, 45, 58, 62]⟩ : ByteArray), .string (⟨#[42, 40, 111, 50, 53, 53, 111, 49, 48, 50, 52, 41]⟩ : ByteArray), .string (⟨#[]⟩ : ByteArray), .string (⟨#[]⟩ : ByteArray), .string (⟨#[42, 40, 111, 49, 48, 50, 52, 42, 40, 111, 50, 53, 53, 41, 41]⟩ : ByteArray)]) (ok := fun _ => True) (okp := fun _ => True) ?hr ?hp (fun _ hk => hk) trivial (Below.refl _ _) (Nat.le_refl _) (by simp) ?_; (case hd => rfl); (case hg => rfl); (case hr => first | (go_simp; done) | (go_simp; rfl)); (case hp => exact (Reps.one (show Kd.M Kd.string _ _ _ (⟨#[60, 48, 58, 111, 54, 52, 60, 49, 58, 117, 62, 44, 45, 58, 62]⟩ : ByteArray) [.string (⟨#[60, 48, 58, 111, 54, 52, 60, 49, 58, 117, 62, 44, 45, 58, 62]⟩ : ByteArray)] from rfl) (Reps.one (show Kd.M Kd.string _ _ _ (⟨#[42, 40, 111, 50, 53, 53, 111, 49, 48, 50, 52, 41]⟩ : ByteArray) [.string (⟨#[42, 40, 111, 50, 53, 53, 111, 49, 48, 50, 52, 41]⟩ : ByteArray)] from rfl) (Reps.one (show Kd.M Kd.string _ _ _ (⟨#[]⟩ : ByteArray) [.string (⟨#[]⟩ : ByteArray)] from rfl) (Reps.one (show Kd.M Kd.string _ _ _ (⟨#[]⟩ : ByteArray) [.string (⟨#[]⟩ : ByteArray)] from rfl) (Reps.one (show Kd.M Kd.string _ _ _ (⟨#[42, 40, 111, 49, 48, 50, 52, 42, 40, 111, 50, 53, 53, 41, 41]⟩ : ByteArray) [.string (⟨#[42, 40, 111, 49, 48, 50, 52, 42, 40, 111, 50, 53, 53, 41, 41]⟩ : ByteArray)] from rfl) (Reps.none _ _))))))); intro v116 w21 ho22 hb hg_ hnew_; clear hg_ hnew_; (first | rw [← Ny115.out] at ho22 | (simp only [Int.reduceToNat] at ho22; rw [← Ny115.out] at ho22)); have n0_ := Aside0.mk (Kd.R_elder' (by (with_reducible repeat (first | apply Kd.R_alloc | apply Kd.R_drewN | apply Kd.R_drew)); exact HO114.out) (Kd.R_base ho22) hb); have n1_ := Aside0.mk (Kd.R_lower (Kd.R_new' ho22 (Kd.R_lt (by (with_reducible repeat (first | apply Kd.R_alloc | apply Kd.R_drewN | apply Kd.R_drew)); exact HO114.out))) (below_size (by repeat (first | (with_reducible first | exact HB.out | apply below_alloc | apply pw_below_drewN | apply below_drew1) | exact HB.out)))); have n2_ := Aside0.mk (below_step (by repeat (first | (with_reducible first | exact HB.out | apply below_alloc | apply pw_below_drewN | apply below_drew1) | exact HB.out)) hb); clear HO114; clear HB; have HO114 := n0_; have HO117 := n1_; have HB := n2_; clear n0_ n1_ n2_; clear hb ho22; obtain ⟨Ao23, co23, eo23⟩ := Kd.R_slice HO114.out; subst eo23; have p118 : 0 ≤ ((ji15) : Int) := of_decide_eq_true (by first | (with_reducible assumption) | assumption); have q118 : (ji15) < (y112.length : Int) := of_decide_eq_true (by first | (with_reducible assumption) | assumption); obtain ⟨ad118, e118, hx118_0⟩ := Kd.at_string (Kd.R_reads' HO114.out).2.2 (ji15) p118 q118; cases e118; replace p118 := eq_true p118; replace q118 := eq_true q118; obtain ⟨Ao24, co24, eo24⟩ := Kd.R_slice HO117.out; subst eo24; have p119 : 0 ≤ ((ji15) : Int) := of_decide_eq_true (by first | (with_reducible assumption) | assumption); have q119 : (ji15) < (y115.length : Int) := of_decide_eq_true (by first | (with_reducible assumption) | assumption); obtain ⟨ad119, e119, hx119_0⟩ := Kd.at_string (Kd.R_reads' HO117.out).2.2 (ji15) p119 q119; cases e119; replace p119 := eq_true p119; replace q119 := eq_true q119))
                    repeat (go_quiet (first | ((with_reducible refine gate_dst (N := 45) rfl ?_); refine Kd.R_lit Kd.string _ 9 ?hg (N := 45) ?hd (xs := ([(⟨#[111, 49, 48, 50, 52]⟩ : ByteArray), (⟨#[]⟩ : ByteArray), (⟨#[111, 49, 48, 50, 52]⟩ : ByteArray), (⟨#[]⟩ : ByteArray), (⟨#[]⟩ : ByteArray)] : List ByteArray)) (inner := [.string (⟨#[111, 49, 48, 50, 52]⟩ : ByteArray), .string (⟨#[]⟩ : ByteArray), .string (⟨#[111, 49, 48, 50, 52]⟩ : ByteArray), .string (⟨#[]⟩ : ByteArray), .string (⟨#[]⟩ : ByteArray)]) (ok := fun _ => True) (okp := fun _ => True) ?hr ?hp (fun _ hk => hk) trivial (Below.refl _ _) (Nat.le_refl _) (by simp) ?_; (case hd => rfl); (case hg => rfl); (case hr => first | (go_simp; done) | (go_simp; rfl)); (case hp => exact (Reps.one (show Kd.M Kd.string _ _ _ (⟨#[111, 49, 48, 50, 52]⟩ : ByteArray) [.string (⟨#[111, 49, 48, 50, 52]⟩ : ByteArray)] from rfl) (Reps.one (show Kd.M Kd.string _ _ _ (⟨#[]⟩ : ByteArray) [.string (⟨#[]⟩ : ByteArray)] from rfl) (Reps.one (show Kd.M Kd.string _ _ _ (⟨#[111, 49, 48, 50, 52]⟩ : ByteArray) [.string (⟨#[111, 49, 48, 50, 52]⟩ : ByteArray)] from rfl) (Reps.one (show Kd.M Kd.string _ _ _ (⟨#[]⟩ : ByteArray) [.string (⟨#[]⟩ : ByteArray)] from rfl) (Reps.one (show Kd.M Kd.string _ _ _ (⟨#[]⟩ : ByteArray) [.string (⟨#[]⟩ : ByteArray)] from rfl) (Reps.none _ _))))))); intro v113 w19 ho20 hb hg_ hnew_; clear hg_ hnew_; (first | rw [← Ny112.out] at ho20 | (simp only [Int.reduceToNat] at ho20; rw [← Ny112.out] at ho20)); have n0_ := Aside0.mk (Kd.R_lower ho20 (below_size (by repeat (first | (with_reducible first | exact HB.out | apply below_alloc | apply pw_below_drewN | apply below_drew1) | exact HB.out)))); have n1_ := Aside0.mk (below_step (by repeat (first | (with_reducible first | exact HB.out | apply below_alloc | apply pw_below_drewN | apply below_drew1) | exact HB.out)) hb); clear HB; have HO114 := n0_; have HB := n1_; clear n0_ n1_; clear hb ho20) | ((with_reducible refine gate_dst (N := 46) rfl ?_); refine Kd.R_lit Kd.string _ 9 ?hg (N := 46) ?hd (xs := ([(⟨#[60, 48, 58, 111, 54, 52, 60, 49, 58, 117, 62, 44, 45, 58, 62]⟩ : ByteArray), (⟨#[42, 40, 111, 50, 53, 53, 111, 49, 48, 50, 52, 41]⟩ : ByteArray), (⟨#[]⟩ : ByteArray), (⟨#[]⟩ : ByteArray), (⟨#[42, 40, 111, 49, 48, 50, 52, 42, 40, 111, 50, 53, 53, 41, 41]⟩ : ByteArray)] : List ByteArray)) (inner := [.string (⟨#[60, 48, 58, 111, 54, 52, 60, 49, 58, 117, 62, 44, 45, 58, 62]⟩ : ByteArray), .string (⟨#[42, 40, 111, 50, 53, 53, 111, 49, 48, 50, 52, 41]⟩ : ByteArray), .string (⟨#[]⟩ : ByteArray), .string (⟨#[]⟩ : ByteArray), .string (⟨#[42, 40, 111, 49, 48, 50, 52, 42, 40, 111, 50, 53, 53, 41, 41]⟩ : ByteArray)]) (ok := fun _ => True) (okp := fun _ => True) ?hr ?hp (fun _ hk => hk) trivial (Below.refl _ _) (Nat.le_refl _) (by simp) ?_; (case hd => rfl); (case hg => rfl); (case hr => first | (go_simp; done) | (go_simp; rfl)); (case hp => exact (Reps.one (show Kd.M Kd.string _ _ _ (⟨#[60, 48, 58, 111, 54, 52, 60, 49, 58, 117, 62, 44, 45, 58, 62]⟩ : ByteArray) [.string (⟨#[60, 48, 58, 111, 54, 52, 60, 49, 58, 117, 62, 44, 45, 58, 62]⟩ : ByteArray)] from rfl) (Reps.one (show Kd.M Kd.string _ _ _ (⟨#[42, 40, 111, 50, 53, 53, 111, 49, 48, 50, 52, 41]⟩ : ByteArray) [.string (⟨#[42, 40, 111, 50, 53, 53, 111, 49, 48, 50, 52, 41]⟩ : ByteArray)] from rfl) (Reps.one (show Kd.M Kd.string _ _ _ (⟨#[]⟩ : ByteArray) [.string (⟨#[]⟩ : ByteArray)] from rfl) (Reps.one (show Kd.M Kd.string _ _ _ (⟨#[]⟩ : ByteArray) [.string (⟨#[]⟩ : ByteArray)] from rfl) (Reps.one (show Kd.M Kd.string _ _ _ (⟨#[42, 40, 111, 49, 48, 50, 52, 42, 40, 111, 50, 53, 53, 41, 41]⟩ : ByteArray) [.string (⟨#[42, 40, 111, 49, 48, 50, 52, 42, 40, 111, 50, 53, 53, 41, 41]⟩ : ByteArray)] from rfl) (Reps.none _ _))))))); intro v116 w21 ho22 hb hg_ hnew_; clear hg_ hnew_; (first | rw [← Ny115.out] at ho22 | (simp only [Int.reduceToNat] at ho22; rw [← Ny115.out] at ho22)); have n0_ := Aside0.mk (Kd.R_elder' (by (with_reducible repeat (first | apply Kd.R_alloc | apply Kd.R_drewN | apply Kd.R_drew)); exact HO114.out) (Kd.R_base ho22) hb); have n1_ := Aside0.mk (Kd.R_lower (Kd.R_new' ho22 (Kd.R_lt (by (with_reducible repeat (first | apply Kd.R_alloc | apply Kd.R_drewN | apply Kd.R_drew)); exact HO114.out))) (below_size (by repeat (first | (with_reducible first | exact HB.out | apply below_alloc | apply pw_below_drewN | apply below_drew1) | exact HB.out)))); have n2_ := Aside0.mk (below_step (by repeat (first | (with_reducible first | exact HB.out | apply below_alloc | apply pw_below_drewN | apply below_drew1) | exact HB.out)) hb); clear HO114; clear HB; have HO114 := n0_; have HO117 := n1_; have HB := n2_; clear n0_ n1_ n2_; clear hb ho22; obtain ⟨Ao23, co23, eo23⟩ := Kd.R_slice HO114.out; subst eo23; have p118 : 0 ≤ ((ji15) : Int) := of_decide_eq_true (by first | (with_reducible assumption) | assumption); have q118 : (ji15) < (y112.length : Int) := of_decide_eq_true (by first | (with_reducible assumption) | assumption); obtain ⟨ad118, e118, hx118_0⟩ := Kd.at_string (Kd.R_reads' HO114.out).2.2 (ji15) p118 q118; cases e118; replace p118 := eq_true p118; replace q118 := eq_true q118; obtain ⟨Ao24, co24, eo24⟩ := Kd.R_slice HO117.out; subst eo24; have p119 : 0 ≤ ((ji15) : Int) := of_decide_eq_true (by first | (with_reducible assumption) | assumption); have q119 : (ji15) < (y115.length : Int) := of_decide_eq_true (by first | (with_reducible assumption) | assumption); obtain ⟨ad119, e119, hx119_0⟩ := Kd.at_string (Kd.R_reads' HO117.out).2.2 (ji15) p119 q119; cases e119; replace p119 := eq_true p119; replace q119 := eq_true q119)); try go_wp2_with (first | ((with_reducible refine gate_dst (N := 45) rfl ?_); refine Kd.R_lit Kd.string _ 9 ?hg (N := 45) ?hd (xs := ([(⟨#[111, 49, 48, 50, 52]⟩ : ByteArray), (⟨#[]⟩ : ByteArray), (⟨#[111, 49, 48, 50, 52]⟩ : ByteArray), (⟨#[]⟩ : ByteArray), (⟨#[]⟩ : ByteArray)] : List ByteArray)) (inner := [.string (⟨#[111, 49, 48, 50, 52]⟩ : ByteArray), .string (⟨#[]⟩ : ByteArray), .string (⟨#[111, 49, 48, 50, 52]⟩ : ByteArray), .string (⟨#[]⟩ : ByteArray), .string (⟨#[]⟩ : ByteArray)]) (ok := fun _ => True) (okp := fun _ => True) ?hr ?hp (fun _ hk => hk) trivial (Below.refl _ _) (Nat.le_refl _) (by simp) ?_; (case hd => rfl); (case hg => rfl); (case hr => first | (go_simp; done) | (go_simp; rfl)); (case hp => exact (Reps.one (show Kd.M Kd.string _ _ _ (⟨#[111, 49, 48, 50, 52]⟩ : ByteArray) [.string (⟨#[111, 49, 48, 50, 52]⟩ : ByteArray)] from rfl) (Reps.one (show Kd.M Kd.string _ _ _ (⟨#[]⟩ : ByteArray) [.string (⟨#[]⟩ : ByteArray)] from rfl) (Reps.one (show Kd.M Kd.string _ _ _ (⟨#[111, 49, 48, 50, 52]⟩ : ByteArray) [.string (⟨#[111, 49, 48, 50, 52]⟩ : ByteArray)] from rfl) (Reps.one (show Kd.M Kd.string _ _ _ (⟨#[]⟩ : ByteArray) [.string (⟨#[]⟩ : ByteArray)] from rfl) (Reps.one (show Kd.M Kd.string _ _ _ (⟨#[]⟩ : ByteArray) [.string (⟨#[]⟩ : ByteArray)] from rfl) (Reps.none _ _))))))); intro v113 w19 ho20 hb hg_ hnew_; clear hg_ hnew_; (first | rw [← Ny112.out] at ho20 | (simp only [Int.reduceToNat] at ho20; rw [← Ny112.out] at ho20)); have n0_ := Aside0.mk (Kd.R_lower ho20 (below_size (by repeat (first | (with_reducible first | exact HB.out | apply below_alloc | apply pw_below_drewN | apply below_drew1) | exact HB.out)))); have n1_ := Aside0.mk (below_step (by repeat (first | (with_reducible first | exact HB.out | apply below_alloc | apply pw_below_drewN | apply below_drew1) | exact HB.out)) hb); clear HB; have HO114 := n0_; have HB := n1_; clear n0_ n1_; clear hb ho20) | ((with_reducible refine gate_dst (N := 46) rfl ?_); refine Kd.R_lit Kd.string _ 9 ?hg (N := 46) ?hd (xs := ([(⟨#[60, 48, 58, 111, 54, 52, 60, 49, 58, 117, 62, 44, 45, 58, 62]⟩ : ByteArray), (⟨#[42, 40, 111, 50, 53, 53, 111, 49, 48, 50, 52, 41]⟩ : ByteArray), (⟨#[]⟩ : ByteArray), (⟨#[]⟩ : ByteArray), (⟨#[42, 40, 111, 49, 48, 50, 52, 42, 40, 111, 50, 53, 53, 41, 41]⟩ : ByteArray)] : List ByteArray)) (inner := [.string (⟨#[60, 48, 58, 111, 54, 52, 60, 49, 58, 117, 62, 44, 45, 58, 62]⟩ : ByteArray), .string (⟨#[42, 40, 111, 50, 53, 53, 111, 49, 48, 50, 52, 41]⟩ : ByteArray), .string (⟨#[]⟩ : ByteArray), .string (⟨#[]⟩ : ByteArray), .string (⟨#[42, 40, 111, 49, 48, 50, 52, 42, 40, 111, 50, 53, 53, 41, 41]⟩ : ByteArray)]) (ok := fun _ => True) (okp := fun _ => True) ?hr ?hp (fun _ hk => hk) trivial (Below.refl _ _) (Nat.le_refl _) (by simp) ?_; (case hd => rfl); (case hg => rfl); (case hr => first | (go_simp; done) | (go_simp; rfl)); (case hp => exact (Reps.one (show Kd.M Kd.string _ _ _ (⟨#[60, 48, 58, 111, 54, 52, 60, 49, 58, 117, 62, 44, 45, 58, 62]⟩ : ByteArray) [.string (⟨#[60, 48, 58, 111, 54, 52, 60, 49, 58, 117, 62, 44, 45, 58, 62]⟩ : ByteArray)] from rfl) (Reps.one (show Kd.M Kd.string _ _ _ (⟨#[42, 40, 111, 50, 53, 53, 111, 49, 48, 50, 52, 41]⟩ : ByteArray) [.string (⟨#[42, 40, 111, 50, 53, 53, 111, 49, 48, 50, 52, 41]⟩ : ByteArray)] from rfl) (Reps.one (show Kd.M Kd.string _ _ _ (⟨#[]⟩ : ByteArray) [.string (⟨#[]⟩ : ByteArray)] from rfl) (Reps.one (show Kd.M Kd.string _ _ _ (⟨#[]⟩ : ByteArray) [.string (⟨#[]⟩ : ByteArray)] from rfl) (Reps.one (show Kd.M Kd.string _ _ _ (⟨#[42, 40, 111, 49, 48, 50, 52, 42, 40, 111, 50, 53, 53, 41, 41]⟩ : ByteArray) [.string (⟨#[42, 40, 111, 49, 48, 50, 52, 42, 40, 111, 50, 53, 53, 41, 41]⟩ : ByteArray)] from rfl) (Reps.none _ _))))))); intro v116 w21 ho22 hb hg_ hnew_; clear hg_ hnew_; (first | rw [← Ny115.out] at ho22 | (simp only [Int.reduceToNat] at ho22; rw [← Ny115.out] at ho22)); have n0_ := Aside0.mk (Kd.R_elder' (by (with_reducible repeat (first | apply Kd.R_alloc | apply Kd.R_drewN | apply Kd.R_drew)); exact HO114.out) (Kd.R_base ho22) hb); have n1_ := Aside0.mk (Kd.R_lower (Kd.R_new' ho22 (Kd.R_lt (by (with_reducible repeat (first | apply Kd.R_alloc | apply Kd.R_drewN | apply Kd.R_drew)); exact HO114.out))) (below_size (by repeat (first | (with_reducible first | exact HB.out | apply below_alloc | apply pw_below_drewN | apply below_drew1) | exact HB.out)))); have n2_ := Aside0.mk (below_step (by repeat (first | (with_reducible first | exact HB.out | apply below_alloc | apply pw_below_drewN | apply below_drew1) | exact HB.out)) hb); clear HO114; clear HB; have HO114 := n0_; have HO117 := n1_; have HB := n2_; clear n0_ n1_ n2_; clear hb ho22; obtain ⟨Ao23, co23, eo23⟩ := Kd.R_slice HO114.out; subst eo23; have p118 : 0 ≤ ((ji15) : Int) := of_decide_eq_true (by first | (with_reducible assumption) | assumption); have q118 : (ji15) < (y112.length : Int) := of_decide_eq_true (by first | (with_reducible assumption) | assumption); obtain ⟨ad118, e118, hx118_0⟩ := Kd.at_string (Kd.R_reads' HO114.out).2.2 (ji15) p118 q118; cases e118; replace p118 := eq_true p118; replace q118 := eq_true q118; obtain ⟨Ao24, co24, eo24⟩ := Kd.R_slice HO117.out; subst eo24; have p119 : 0 ≤ ((ji15) : Int) := of_decide_eq_true (by first | (with_reducible assumption) | assumption); have q119 : (ji15) < (y115.length : Int) := of_decide_eq_true (by first | (with_reducible assumption) | assumption); obtain ⟨ad119, e119, hx119_0⟩ := Kd.at_string (Kd.R_reads' HO117.out).2.2 (ji15) p119 q119; cases e119; replace p119 := eq_true p119; replace q119 := eq_true q119)))
                    go_ret3
                    exact ⟨by first | rfl | (simp [errW_none, errW_some] <;> rfl) | (simp only [← hji15]; first | rfl | (simp [errW_none, errW_some] <;> rfl)) | (simp [*, errW_none, errW_some] <;> rfl), by repeat (first | (with_reducible first | exact HB.out | apply below_alloc | apply pw_below_drewN | apply below_drew1) | exact HB.out)⟩
                  · rw [if_neg c18] at H
                    exact absurd H (by simp)
                · rw [if_neg c17] at H
                  exact absurd H (by simp)
              · rw [if_neg c16] at H
                exact absurd H (by simp)
            · rw [if_neg c14] at H
              have c14b0 : decide (a1 ≤ 5) = false := decide_eq_false c14
              clear c14
              by_cases c25 : a1 = 0
              · rw [if_pos c25] at H
                have c25b0 : (a1 == 0) = true := beq_iff_eq.mpr c25
                have c25b1 : (a1 != 0) = false := bne_eq_false_iff_eq.mpr c25
                clear c25
                by_cases c26 : a0 = 100003
                · rw [if_pos c26] at H
                  have c26b0 : (a0 == 100003) = true := beq_iff_eq.mpr c26
                  have c26b1 : (a0 != 100003) = false := bne_eq_false_iff_eq.mpr c26
                  clear c26
                  simp only [Option.some.injEq, Prod.mk.injEq] at H
                  obtain ⟨rfl, rfl, rfl⟩ := H
                  go_wp2
                  repeat (go_quiet (fail); try go_wp2)
                  go_ret3
                  exact ⟨by first | rfl | (simp [errW_none, errW_some] <;> rfl) | (simp [*, errW_none, errW_some] <;> rfl), by repeat (first | (with_reducible first | exact HB.out | apply below_alloc | apply pw_below_drewN | apply below_drew1) | exact HB.out)⟩
                · rw [if_neg c26] at H
                  have c26b0 : (a0 == 100003) = false := beq_eq_false_iff_ne.mpr c26
                  have c26b1 : (a0 != 100003) = true := bne_iff_ne.mpr c26
                  simp only [Option.some.injEq, Prod.mk.injEq] at H
                  obtain ⟨rfl, rfl, rfl⟩ := H
                  go_wp2
                  repeat (go_quiet (fail); try go_wp2)
                  go_ret3
                  exact ⟨by first | rfl | (simp [errW_none, errW_some] <;> rfl) | (simp [*, errW_none, errW_some] <;> rfl), by repeat (first | (with_reducible first | exact HB.out | apply below_alloc | apply pw_below_drewN | apply below_drew1) | exact HB.out)⟩
              · rw [if_neg c25] at H
                have c25b0 : (a1 == 0) = false := beq_eq_false_iff_ne.mpr c25
                have c25b1 : (a1 != 0) = true := bne_iff_ne.mpr c25
                simp only [Option.some.injEq, Prod.mk.injEq] at H
                obtain ⟨rfl, rfl, rfl⟩ := H
                go_wp2
                repeat (go_quiet (fail); try go_wp2)
                go_ret3
                exact ⟨by first | rfl | (simp [errW_none, errW_some] <;> rfl) | (simp [*, errW_none, errW_some] <;> rfl), by repeat (first | (with_reducible first | exact HB.out | apply below_alloc | apply pw_below_drewN | apply below_drew1) | exact HB.out)⟩
          · rw [if_neg c13] at H
            have c13b0 : decide (1 ≤ a1) = false := decide_eq_false c13
            clear c13
            by_cases c27 : a1 = 0
            · rw [if_pos c27] at H
              have c27b0 : (a1 == 0) = true := beq_iff_eq.mpr c27
              have c27b1 : (a1 != 0) = false := bne_eq_false_iff_eq.mpr c27
              clear c27
              by_cases c28 : a0 = 100003
              · rw [if_pos c28] at H
                have c28b0 : (a0 == 100003) = true := beq_iff_eq.mpr c28
                have c28b1 : (a0 != 100003) = false := bne_eq_false_iff_eq.mpr c28
                clear c28
                simp only [Option.some.injEq, Prod.mk.injEq] at H
                obtain ⟨rfl, rfl, rfl⟩ := H
                go_wp2
                repeat (go_quiet (fail); try go_wp2)
                go_ret3
                exact ⟨by first | rfl | (simp [errW_none, errW_some] <;> rfl) | (simp [*, errW_none, errW_some] <;> rfl), by repeat (first | (with_reducible first | exact HB.out | apply below_alloc | apply pw_below_drewN | apply below_drew1) | exact HB.out)⟩
              · rw [if_neg c28] at H
                have c28b0 : (a0 == 100003) = false := beq_eq_false_iff_ne.mpr c28
                have c28b1 : (a0 != 100003) = true := bne_iff_ne.mpr c28
                simp only [Option.some.injEq, Prod.mk.injEq] at H
                obtain ⟨rfl, rfl, rfl⟩ := H
                go_wp2
                repeat (go_quiet (fail); try go_wp2)
                go_ret3
                exact ⟨by first | rfl | (simp [errW_none, errW_some] <;> rfl) | (simp [*, errW_none, errW_some] <;> rfl), by repeat (first | (with_reducible first | exact HB.out | apply below_alloc | apply pw_below_drewN | apply below_drew1) | exact HB.out)⟩
            · rw [if_neg c27] at H
              have c27b0 : (a1 == 0) = false := beq_eq_false_iff_ne.mpr c27
              have c27b1 : (a1 != 0) = true := bne_iff_ne.mpr c27
              simp only [Option.some.injEq, Prod.mk.injEq] at H
              obtain ⟨rfl, rfl, rfl⟩ := H
              go_wp2
              repeat (go_quiet (fail); try go_wp2)
              go_ret3
              exact ⟨by first | rfl | (simp [errW_none, errW_some] <;> rfl) | (simp [*, errW_none, errW_some] <;> rfl), by repeat (first | (with_reducible first | exact HB.out | apply below_alloc | apply pw_below_drewN | apply below_drew1) | exact HB.out)⟩
        · rw [if_neg c12] at H
          have c12b0 : (a0 == 100005) = false := beq_eq_false_iff_ne.mpr c12
          have c12b1 : (a0 != 100005) = true := bne_iff_ne.mpr c12
          by_cases c29 : a1 = 0
          · rw [if_pos c29] at H
            have c29b0 : (a1 == 0) = true := beq_iff_eq.mpr c29
            have c29b1 : (a1 != 0) = false := bne_eq_false_iff_eq.mpr c29
            clear c29
            by_cases c30 : a0 = 100003
            · rw [if_pos c30] at H
              have c30b0 : (a0 == 100003) = true := beq_iff_eq.mpr c30
              have c30b1 : (a0 != 100003) = false := bne_eq_false_iff_eq.mpr c30
              clear c30
              simp only [Option.some.injEq, Prod.mk.injEq] at H
              obtain ⟨rfl, rfl, rfl⟩ := H
              go_wp2
              repeat (go_quiet (fail); try go_wp2)
              go_ret3
              exact ⟨by first | rfl | (simp [errW_none, errW_some] <;> rfl) | (simp [*, errW_none, errW_some] <;> rfl), by repeat (first | (with_reducible first | exact HB.out | apply below_alloc | apply pw_below_drewN | apply below_drew1) | exact HB.out)⟩
            · rw [if_neg c30] at H
              have c30b0 : (a0 == 100003) = false := beq_eq_false_iff_ne.mpr c30
              have c30b1 : (a0 != 100003) = true := bne_iff_ne.mpr c30
              simp only [Option.some.injEq, Prod.mk.injEq] at H
              obtain ⟨rfl, rfl, rfl⟩ := H
              go_wp2
              repeat (go_quiet (fail); try go_wp2)
              go_ret3
              exact ⟨by first | rfl | (simp [errW_none, errW_some] <;> rfl) | (simp [*, errW_none, errW_some] <;> rfl), by repeat (first | (with_reducible first | exact HB.out | apply below_alloc | apply pw_below_drewN | apply below_drew1) | exact HB.out)⟩
          · rw [if_neg c29] at H
            have c29b0 : (a1 == 0) = false := beq_eq_false_iff_ne.mpr c29
            have c29b1 : (a1 != 0) = true := bne_iff_ne.mpr c29
            simp only [Option.some.injEq, Prod.mk.injEq] at H
            obtain ⟨rfl, rfl, rfl⟩ := H
            go_wp2
            repeat (go_quiet (fail); try go_wp2)
            go_ret3
            exact ⟨by first | rfl | (simp [errW_none, errW_some] <;> rfl) | (simp [*, errW_none, errW_some] <;> rfl), by repeat (first | (with_reducible first | exact HB.out | apply below_alloc | apply pw_below_drewN | apply below_drew1) | exact HB.out)⟩

end Go.Proofs.YtgfljlbecafipaaDoor.PA
