-- printed by a program of this session (wip/tools), over the translation
import Derived.Test.YtelfachmfcjpoaaPAx0
import Derived.Test.YtelfachmfcjpoaaPAx1
import Derived.Test.YtelfachmfcjpoaaPAx3
import Derived.Test.YtelfachmfcjpoaaEX
namespace Go.Proofs.Ytelfachmfcjpoaa.PA
open Go.RowKit Go.Proofs.YtelfachmfcjpoaaW.PrintWords Go.Proofs.YtelfachmfcjpoaaW.PrintLast Go.Proofs.YtelfachmfcjpoaaW.PrintMore
attribute [local go_sem] max2_int min2_int max_two min_two max_three min_three max_four min_four   -- for this text's walks alone
set_option linter.unusedVariables false
set_option linter.unusedSimpArgs false

attribute [local go_sem high] eqA41
/-! ### coraclelaw24_AuditTotals: function 5 -/
mutual
def coraclelaw24_AuditTotals.l0 : Nat → List (S32) → List (S41) → Int → Int → Option (Bool)
  | 0, _, _, _, _ => none
  | k + 1, x0, x5, x6, x7 => if x7 < (x5.length : Int) then (if 0 ≤ x7 then (coraclelaw24_AuditTotals.l1 k x0 x5 x6 x7 0 ((rd_T41 x5 x7).f0) 0 0 0) else (none)) else (some (x6 == (x0.length : Int)))
def coraclelaw24_AuditTotals.l1 : Nat → List (S32) → List (S41) → Int → Int → Int → Int → Int → Int → Int → Option (Bool)
  | 0, _, _, _, _, _, _, _, _, _ => none
  | k + 1, x0, x5, x6, x7, x9, x149000, x149001, x149002, x149003 => if x9 < (x0.length : Int) then (if 0 ≤ x9 then (if ((rd_T32 x0 x9).f3) = x149000 then (if (rd_T32 x0 x9).f5 = true then (if ((rd_T32 x0 x9).f4) = 0 then (coraclelaw24_AuditTotals.l1 k x0 x5 x6 x7 (wrap64 (x9 + 1)) x149000 (wrap64 (x149001 + 1)) (wrap64 (x149002 + 1)) x149003) else (coraclelaw24_AuditTotals.l1 k x0 x5 x6 x7 (wrap64 (x9 + 1)) x149000 (wrap64 (x149001 + 1)) (wrap64 (x149002 + 1)) (wrap64 (x149003 + 1)))) else (if ((rd_T32 x0 x9).f4) = 0 then (coraclelaw24_AuditTotals.l1 k x0 x5 x6 x7 (wrap64 (x9 + 1)) x149000 (wrap64 (x149001 + 1)) x149002 x149003) else (coraclelaw24_AuditTotals.l1 k x0 x5 x6 x7 (wrap64 (x9 + 1)) x149000 (wrap64 (x149001 + 1)) x149002 (wrap64 (x149003 + 1))))) else (coraclelaw24_AuditTotals.l1 k x0 x5 x6 x7 (wrap64 (x9 + 1)) x149000 x149001 x149002 x149003)) else (none)) else (if 0 ≤ x7 then (if x7 < (x5.length : Int) then (if (!(x149000 == ((rd_T41 x5 x7).f0)) || (!(x149001 == ((rd_T41 x5 x7).f1)) || (!(x149002 == ((rd_T41 x5 x7).f2)) || (!(x149003 == ((rd_T41 x5 x7).f3)))))) = true then (some false) else (if x149001 = 0 then (some false) else (if x7 > 0 then (if 0 ≤ (wrap64 (x7 - 1)) then (if (wrap64 (x7 - 1)) < (x5.length : Int) then (if ((rd_T41 x5 (wrap64 (x7 - 1))).f0) ≥ ((rd_T41 x5 x7).f0) then (some false) else (coraclelaw24_AuditTotals.l0 k x0 x5 (wrap64 (x6 + x149001)) (wrap64 (x7 + 1)))) else (none)) else (none)) else (coraclelaw24_AuditTotals.l0 k x0 x5 (wrap64 (x6 + x149001)) (wrap64 (x7 + 1)))))) else (none)) else (none))
end
def coraclelaw24_AuditTotals.f (k : Nat) (l0 : List (S32)) : Option (Bool) := (coraclelaw24_speaks.f).bind fun t138 => (if t138 = true then ((coraclelaw24_rows.f k l0).bind fun bt139 => ((audit_Totals.f bt139.1).bind fun t145 => (coraclelaw24_AuditTotals.l0 k l0 t145 0 0))) else (some false))
theorem coraclelaw24_AuditTotals.mono_l : ∀ k, (∀ y0 y1 y2 y3, LeO (coraclelaw24_AuditTotals.l0 k y0 y1 y2 y3) (coraclelaw24_AuditTotals.l0 (k + 1) y0 y1 y2 y3)) ∧ (∀ y0 y1 y2 y3 y4 y5 y6 y7 y8, LeO (coraclelaw24_AuditTotals.l1 k y0 y1 y2 y3 y4 y5 y6 y7 y8) (coraclelaw24_AuditTotals.l1 (k + 1) y0 y1 y2 y3 y4 y5 y6 y7 y8))
  | 0 => ⟨fun _ _ _ _ r h => by simp [coraclelaw24_AuditTotals.l0] at h, fun _ _ _ _ _ _ _ _ _ r h => by simp [coraclelaw24_AuditTotals.l1] at h⟩
  | k + 1 => by
    obtain ⟨ih0, ih1⟩ := coraclelaw24_AuditTotals.mono_l k
    refine ⟨?_, ?_⟩
    · intro y0 y1 y2 y3
      unfold coraclelaw24_AuditTotals.l0
      repeat' first
      | (with_reducible exact ih0 _ _ _ _)
      | (with_reducible exact ih1 _ _ _ _ _ _ _ _ _)
      | (with_reducible exact coraclelaw24_rows.mono _ _)
      | (with_reducible exact LeO.refl _)
      | (with_reducible exact LeO.none _)
      | (with_reducible refine LeO.ite ?_ ?_)
      | (with_reducible refine LeO.bind ?_ (fun _ => ?_))
      | exact ih0 _ _ _ _
      | exact ih1 _ _ _ _ _ _ _ _ _
      | exact coraclelaw24_rows.mono _ _
      | exact LeO.none _
      | refine LeO.ite ?_ ?_
      | refine LeO.bind ?_ (fun _ => ?_)
    · intro y0 y1 y2 y3 y4 y5 y6 y7 y8
      unfold coraclelaw24_AuditTotals.l1
      repeat' first
      | (with_reducible exact ih0 _ _ _ _)
      | (with_reducible exact ih1 _ _ _ _ _ _ _ _ _)
      | (with_reducible exact coraclelaw24_rows.mono _ _)
      | (with_reducible exact LeO.refl _)
      | (with_reducible exact LeO.none _)
      | (with_reducible refine LeO.ite ?_ ?_)
      | (with_reducible refine LeO.bind ?_ (fun _ => ?_))
      | exact ih0 _ _ _ _
      | exact ih1 _ _ _ _ _ _ _ _ _
      | exact coraclelaw24_rows.mono _ _
      | exact LeO.none _
      | refine LeO.ite ?_ ?_
      | refine LeO.bind ?_ (fun _ => ?_)
theorem coraclelaw24_AuditTotals.mono : ∀ a0 k, LeO (coraclelaw24_AuditTotals.f k a0) (coraclelaw24_AuditTotals.f (k + 1) a0) := by
  intro a0 k
  obtain ⟨ih0, ih1⟩ := coraclelaw24_AuditTotals.mono_l k
  unfold coraclelaw24_AuditTotals.f
  repeat' first
      | (with_reducible exact ih0 _ _ _ _)
      | (with_reducible exact ih1 _ _ _ _ _ _ _ _ _)
      | (with_reducible exact coraclelaw24_rows.mono _ _)
      | (with_reducible exact LeO.refl _)
      | (with_reducible exact LeO.none _)
      | (with_reducible refine LeO.ite ?_ ?_)
      | (with_reducible refine LeO.bind ?_ (fun _ => ?_))
      | exact ih0 _ _ _ _
      | exact ih1 _ _ _ _ _ _ _ _ _
      | exact coraclelaw24_rows.mono _ _
      | exact LeO.none _
      | refine LeO.ite ?_ ?_
      | refine LeO.bind ?_ (fun _ => ?_)
set_option maxHeartbeats 8000000 in
set_option maxRecDepth 100000 in
theorem coraclelaw24_AuditTotals.calls (k : Nat) (A0 : Option Addr) (c0 : Nat) (l0 : List (S32)) (r : Bool) (w : World) (hr0 : Kd.C k32 w A0 l0.length l0) (hc0 : l0.length ≤ c0) (h : coraclelaw24_AuditTotals.f k l0 = some r) :
    Calls Try.prog 5 #[.slice A0 l0.length c0] w fun e w' => e = .returned (.bool r) ∧ Below w.heap.size w w' := by
  have hu41 := Try.underlying41
  have HR0 := Aside0.mk hr0
  have HC0 := Aside0.mk hc0
  clear hr0 hc0
  have HB := Aside0.mk (Below.refl w.heap.size w)
  have H : ((coraclelaw24_speaks.f).bind fun t138 => (if t138 = true then ((coraclelaw24_rows.f k l0).bind fun bt139 => ((audit_Totals.f bt139.1).bind fun t145 => (coraclelaw24_AuditTotals.l0 k l0 t145 0 0))) else (some false))) = some r := h
  clear h
  replace H := Option.bind_eq_some_iff.mp H
  obtain ⟨t138, A20, H⟩ := H
  replace H : (if t138 = true then ((coraclelaw24_rows.f k l0).bind fun bt139 => ((audit_Totals.f bt139.1).bind fun t145 => (coraclelaw24_AuditTotals.l0 k l0 t145 0 0))) else (some false)) = some r := H
  have A2 := Aside0.mk A20
  clear A20
  by_cases c3 : t138 = true
  · subst c3
    have H1 : ((coraclelaw24_rows.f k l0).bind fun bt139 => ((audit_Totals.f bt139.1).bind fun t145 => (coraclelaw24_AuditTotals.l0 k l0 t145 0 0))) = some r := by rw [if_pos rfl] at H; exact H
    clear H
    have H := H1
    clear H1
    replace H := Option.bind_eq_some_iff.mp H
    obtain ⟨⟨t139, t140⟩, A40, H⟩ := H
    replace H : ((audit_Totals.f t139).bind fun t145 => (coraclelaw24_AuditTotals.l0 k l0 t145 0 0)) = some r := H
    have A4 := Aside0.mk A40
    clear A40
    replace H := Option.bind_eq_some_iff.mp H
    obtain ⟨t145, A50, H⟩ := H
    replace H : (coraclelaw24_AuditTotals.l0 k l0 t145 0 0) = some r := H
    have A5 := Aside0.mk A50
    clear A50
    have H' := Aside0.mk H
    clear H
    go_enter Try.func5, Try.ntmps5
    go_wp2_with (first | (go_at_call 7; (with_reducible refine (coraclelaw24_speaks.calls  true _ A2.out).mono ?_); rintro e w6 ⟨rfl, hb⟩; have n0_ := Aside0.mk (below_step (by repeat (first | (with_reducible first | exact HB.out | apply below_alloc | apply pw_below_drewN | apply below_drew1) | exact HB.out)) hb); clear HB; have HB := n0_; clear n0_; (try clear hb); (try clear hb2); (try clear hk); (try clear hi)) | (go_at_call 8; (with_reducible refine (coraclelaw24_rows.calls k _ _ l0 t139 t140 _ ?side1 ?side2 A4.out).mono ?_); (case side1 => repeat (first | exact (Kd.C_below HR0.out HB.out) | (with_reducible refine Kd.C_alloc ?_ _) | (with_reducible refine Kd.C_drewN ?_ _) | (with_reducible refine Kd.C_drew ?_))); (case side2 => exact HC0.out); rintro e w7 ⟨v141, v143, rfl, ho0, ho1, hb⟩; have n0_ := Aside0.mk (Kd.R_lower ho0 (below_size (by repeat (first | (with_reducible first | exact HB.out | apply below_alloc | apply pw_below_drewN | apply below_drew1) | exact HB.out)))); have n1_ := Aside0.mk (Kd.R_lower ho1 (below_size (by repeat (first | (with_reducible first | exact HB.out | apply below_alloc | apply pw_below_drewN | apply below_drew1) | exact HB.out)))); have n2_ := Aside0.mk (below_step (by repeat (first | (with_reducible first | exact HB.out | apply below_alloc | apply pw_below_drewN | apply below_drew1) | exact HB.out)) hb); clear HB; have HO142 := n0_; have HO144 := n1_; have HB := n2_; clear n0_ n1_ n2_; (try clear hb); (try clear hb2); (try clear hk); (try clear hi); (try clear ho0); (try clear ho1); obtain ⟨Ao8, co8, eo8⟩ := Kd.R_slice HO142.out; subst eo8) | (go_at_call 13; (with_reducible refine (audit_Totals.calls _ _ t139 t145 _ ?side1 ?side2 A5.out).mono ?_); (case side1 => repeat (first | exact (Kd.R_reads' HO142.out).2.2 | (with_reducible refine Kd.C_alloc ?_ _) | (with_reducible refine Kd.C_drewN ?_ _) | (with_reducible refine Kd.C_drew ?_))); (case side2 => exact (Kd.R_reads' HO142.out).2.1); rintro e w9 ⟨v146, rfl, ho0, hb⟩; have n0_ := Aside0.mk (Kd.R_below (by (with_reducible repeat (first | apply Kd.R_alloc | apply Kd.R_drewN | apply Kd.R_drew)); exact HO142.out) hb); have n1_ := Aside0.mk (Kd.R_below (by (with_reducible repeat (first | apply Kd.R_alloc | apply Kd.R_drewN | apply Kd.R_drew)); exact HO144.out) hb); have n2_ := Aside0.mk (Kd.R_lower ho0 (below_size (by repeat (first | (with_reducible first | exact HB.out | apply below_alloc | apply pw_below_drewN | apply below_drew1) | exact HB.out)))); have n3_ := Aside0.mk (below_step (by repeat (first | (with_reducible first | exact HB.out | apply below_alloc | apply pw_below_drewN | apply below_drew1) | exact HB.out)) hb); clear HO142; clear HO144; clear HB; have HO142 := n0_; have HO144 := n1_; have HO147 := n2_; have HB := n3_; clear n0_ n1_ n2_ n3_; (try clear hb); (try clear hb2); (try clear hk); (try clear hi); (try clear ho0)))
    repeat (go_quiet (first | (go_at_call 7; (with_reducible refine (coraclelaw24_speaks.calls  true _ A2.out).mono ?_); rintro e w6 ⟨rfl, hb⟩; have n0_ := Aside0.mk (below_step (by repeat (first | (with_reducible first | exact HB.out | apply below_alloc | apply pw_below_drewN | apply below_drew1) | exact HB.out)) hb); clear HB; have HB := n0_; clear n0_; (try clear hb); (try clear hb2); (try clear hk); (try clear hi)) | (go_at_call 8; (with_reducible refine (coraclelaw24_rows.calls k _ _ l0 t139 t140 _ ?side1 ?side2 A4.out).mono ?_); (case side1 => repeat (first | exact (Kd.C_below HR0.out HB.out) | (with_reducible refine Kd.C_alloc ?_ _) | (with_reducible refine Kd.C_drewN ?_ _) | (with_reducible refine Kd.C_drew ?_))); (case side2 => exact HC0.out); rintro e w7 ⟨v141, v143, rfl, ho0, ho1, hb⟩; have n0_ := Aside0.mk (Kd.R_lower ho0 (below_size (by repeat (first | (with_reducible first | exact HB.out | apply below_alloc | apply pw_below_drewN | apply below_drew1) | exact HB.out)))); have n1_ := Aside0.mk (Kd.R_lower ho1 (below_size (by repeat (first | (with_reducible first | exact HB.out | apply below_alloc | apply pw_below_drewN | apply below_drew1) | exact HB.out)))); have n2_ := Aside0.mk (below_step (by repeat (first | (with_reducible first | exact HB.out | apply below_alloc | apply pw_below_drewN | apply below_drew1) | exact HB.out)) hb); clear HB; have HO142 := n0_; have HO144 := n1_; have HB := n2_; clear n0_ n1_ n2_; (try clear hb); (try clear hb2); (try clear hk); (try clear hi); (try clear ho0); (try clear ho1); obtain ⟨Ao8, co8, eo8⟩ := Kd.R_slice HO142.out; subst eo8) | (go_at_call 13; (with_reducible refine (audit_Totals.calls _ _ t139 t145 _ ?side1 ?side2 A5.out).mono ?_); (case side1 => repeat (first | exact (Kd.R_reads' HO142.out).2.2 | (with_reducible refine Kd.C_alloc ?_ _) | (with_reducible refine Kd.C_drewN ?_ _) | (with_reducible refine Kd.C_drew ?_))); (case side2 => exact (Kd.R_reads' HO142.out).2.1); rintro e w9 ⟨v146, rfl, ho0, hb⟩; have n0_ := Aside0.mk (Kd.R_below (by (with_reducible repeat (first | apply Kd.R_alloc | apply Kd.R_drewN | apply Kd.R_drew)); exact HO142.out) hb); have n1_ := Aside0.mk (Kd.R_below (by (with_reducible repeat (first | apply Kd.R_alloc | apply Kd.R_drewN | apply Kd.R_drew)); exact HO144.out) hb); have n2_ := Aside0.mk (Kd.R_lower ho0 (below_size (by repeat (first | (with_reducible first | exact HB.out | apply below_alloc | apply pw_below_drewN | apply below_drew1) | exact HB.out)))); have n3_ := Aside0.mk (below_step (by repeat (first | (with_reducible first | exact HB.out | apply below_alloc | apply pw_below_drewN | apply below_drew1) | exact HB.out)) hb); clear HO142; clear HO144; clear HB; have HO142 := n0_; have HO144 := n1_; have HO147 := n2_; have HB := n3_; clear n0_ n1_ n2_ n3_; (try clear hb); (try clear hb2); (try clear hk); (try clear hi); (try clear ho0))); try go_wp2_with (first | (go_at_call 7; (with_reducible refine (coraclelaw24_speaks.calls  true _ A2.out).mono ?_); rintro e w6 ⟨rfl, hb⟩; have n0_ := Aside0.mk (below_step (by repeat (first | (with_reducible first | exact HB.out | apply below_alloc | apply pw_below_drewN | apply below_drew1) | exact HB.out)) hb); clear HB; have HB := n0_; clear n0_; (try clear hb); (try clear hb2); (try clear hk); (try clear hi)) | (go_at_call 8; (with_reducible refine (coraclelaw24_rows.calls k _ _ l0 t139 t140 _ ?side1 ?side2 A4.out).mono ?_); (case side1 => repeat (first | exact (Kd.C_below HR0.out HB.out) | (with_reducible refine Kd.C_alloc ?_ _) | (with_reducible refine Kd.C_drewN ?_ _) | (with_reducible refine Kd.C_drew ?_))); (case side2 => exact HC0.out); rintro e w7 ⟨v141, v143, rfl, ho0, ho1, hb⟩; have n0_ := Aside0.mk (Kd.R_lower ho0 (below_size (by repeat (first | (with_reducible first | exact HB.out | apply below_alloc | apply pw_below_drewN | apply below_drew1) | exact HB.out)))); have n1_ := Aside0.mk (Kd.R_lower ho1 (below_size (by repeat (first | (with_reducible first | exact HB.out | apply below_alloc | apply pw_below_drewN | apply below_drew1) | exact HB.out)))); have n2_ := Aside0.mk (below_step (by repeat (first | (with_reducible first | exact HB.out | apply below_alloc | apply pw_below_drewN | apply below_drew1) | exact HB.out)) hb); clear HB; have HO142 := n0_; have HO144 := n1_; have HB := n2_; clear n0_ n1_ n2_; (try clear hb); (try clear hb2); (try clear hk); (try clear hi); (try clear ho0); (try clear ho1); obtain ⟨Ao8, co8, eo8⟩ := Kd.R_slice HO142.out; subst eo8) | (go_at_call 13; (with_reducible refine (audit_Totals.calls _ _ t139 t145 _ ?side1 ?side2 A5.out).mono ?_); (case side1 => repeat (first | exact (Kd.R_reads' HO142.out).2.2 | (with_reducible refine Kd.C_alloc ?_ _) | (with_reducible refine Kd.C_drewN ?_ _) | (with_reducible refine Kd.C_drew ?_))); (case side2 => exact (Kd.R_reads' HO142.out).2.1); rintro e w9 ⟨v146, rfl, ho0, hb⟩; have n0_ := Aside0.mk (Kd.R_below (by (with_reducible repeat (first | apply Kd.R_alloc | apply Kd.R_drewN | apply Kd.R_drew)); exact HO142.out) hb); have n1_ := Aside0.mk (Kd.R_below (by (with_reducible repeat (first | apply Kd.R_alloc | apply Kd.R_drewN | apply Kd.R_drew)); exact HO144.out) hb); have n2_ := Aside0.mk (Kd.R_lower ho0 (below_size (by repeat (first | (with_reducible first | exact HB.out | apply below_alloc | apply pw_below_drewN | apply below_drew1) | exact HB.out)))); have n3_ := Aside0.mk (below_step (by repeat (first | (with_reducible first | exact HB.out | apply below_alloc | apply pw_below_drewN | apply below_drew1) | exact HB.out)) hb); clear HO142; clear HO144; clear HB; have HO142 := n0_; have HO144 := n1_; have HO147 := n2_; have HB := n3_; clear n0_ n1_ n2_ n3_; (try clear hb); (try clear hb2); (try clear hk); (try clear hi); (try clear ho0))))
    go_loopg [6, 7] k (fun kq v6 v7 w' => ∃ (x6_1 : Int) (x7_1 : Int), v6 = .int .i64 x6_1 ∧ v7 = .int .i64 x7_1 ∧ Aside0 (coraclelaw24_AuditTotals.l0 kq l0 t145 x6_1 x7_1 = some r) ∧ Aside0 (kq ≤ k) ∧ Aside0 (Kd.R k41 41 w' w.heap.size (fun _ => True) v146 t145) ∧ Aside0 (Below w.heap.size w w'))
    case atStart => exact ⟨(0), (0), (by first | rfl | (simp; done) | (simp [*]; done)), (by first | rfl | (simp; done) | (simp [*]; done)), H', ⟨Nat.le_refl _⟩, ⟨by (with_reducible repeat (first | apply Kd.R_alloc | apply Kd.R_drewN | apply Kd.R_drew)); exact HO147.out⟩, ⟨by repeat (first | (with_reducible first | exact HB.out | apply below_alloc | apply pw_below_drewN | apply below_drew1) | exact HB.out)⟩⟩
    case round =>
      clear H'
      try clear p2
      try clear c3
      try clear c5
      obtain ⟨x6_1, x7_1, rfl, rfl, HA, HK1, HO_5, HB⟩ := hrel
      cases gk with
      | zero => exact absurd HA.out (by simp [coraclelaw24_AuditTotals.l0])
      | succ k1 =>
        have H := HA.out
        clear HA
        simp only [coraclelaw24_AuditTotals.l0] at H
        by_cases c10 : x7_1 < (t145.length : Int)
        · rw [if_pos c10] at H
          have c10b0 : decide (x7_1 < (t145.length : Int)) = true := decide_eq_true c10
          clear c10
          by_cases c11 : 0 ≤ x7_1
          · rw [if_pos c11] at H
            have c11b0 : decide (0 ≤ x7_1) = true := decide_eq_true c11
            clear c11
            have H' := Aside0.mk H
            clear H
            obtain ⟨Ao12, co12, eo12⟩ := Kd.R_slice HO_5.out
            subst eo12
            go_wp2_with (first | ((with_reducible refine gate_dst (N := 8) rfl ?_); refine box_event ?hg (N := 8) ?hd (cs := #[.int .i64 0, .int .i64 0, .int .i64 0, .int .i64 0]) (t := 41) ?hr ?_; (case hd => rfl); (case hg => rfl); (case hr => first | (go_simp; done) | (go_simp; rfl)); intro gb148 hg w13 hbox hb; have n0_ := Aside0.mk (Kd.R_below (Kd.R_elderB (by (with_reducible repeat (first | apply Kd.R_alloc | apply Kd.R_drewN | apply Kd.R_drew)); exact HO_5.out) gb148 (Nat.le_of_eq hg.symm)) hb); have n1_ := Aside0.mk (below_step (by repeat (first | (with_reducible first | exact HB.out | apply below_alloc | apply pw_below_drewN | apply below_drew1) | exact HB.out)) hb); have n2_ := Aside0.mk (hbox); have n3_ := Aside0.mk ((by rw [hg]; exact (below_size (by repeat (first | (with_reducible first | exact HB.out | apply below_alloc | apply pw_below_drewN | apply below_drew1) | exact HB.out))) : w.heap.size ≤ gb148)); have n4_ := Aside0.mk ((by rw [hg]; exact (below_size (by repeat (first | (with_reducible first | exact HB.out | apply below_alloc | apply pw_below_drewN | apply below_drew1) | exact HB.out))) : w.heap.size ≤ gb148)); clear HO_5; clear HB; have HO_5 := n0_; have HB := n1_; have BK148 := n2_; have GW148 := n3_; have GE148 := n4_; clear n0_ n1_ n2_ n3_ n4_; clear hb hbox hg; have p149 : 0 ≤ (x7_1 : Int) := of_decide_eq_true (by first | (with_reducible assumption) | assumption); have q149 : x7_1 < (t145.length : Int) := of_decide_eq_true (by first | (with_reducible assumption) | assumption); obtain ⟨ad149, e149, hx149_0, hx149_1, hx149_2, hx149_3⟩ := at_T41 (Kd.R_reads' HO_5.out).2.2 x7_1 p149 q149; cases e149; replace p149 := eq_true p149; replace q149 := eq_true q149; have hcz14_0 : w13.cell? ⟨gb148, 0, none⟩ = some (.int .i64 0) := (blk_cell BK148.out 0).trans rfl; have hcz14_1 : w13.cell? ⟨gb148, 1, none⟩ = some (.int .i64 0) := (blk_cell BK148.out 1).trans rfl; have hcz14_2 : w13.cell? ⟨gb148, 2, none⟩ = some (.int .i64 0) := (blk_cell BK148.out 2).trans rfl; have hcz14_3 : w13.cell? ⟨gb148, 3, none⟩ = some (.int .i64 0) := (blk_cell BK148.out 3).trans rfl; have hfz14_0 := blk_frozen BK148.out 0; have hfz14_1 := blk_frozen BK148.out 1; have hfz14_2 := blk_frozen BK148.out 2; have hfz14_3 := blk_frozen BK148.out 3))
            repeat (go_quiet (first | ((with_reducible refine gate_dst (N := 8) rfl ?_); refine box_event ?hg (N := 8) ?hd (cs := #[.int .i64 0, .int .i64 0, .int .i64 0, .int .i64 0]) (t := 41) ?hr ?_; (case hd => rfl); (case hg => rfl); (case hr => first | (go_simp; done) | (go_simp; rfl)); intro gb148 hg w13 hbox hb; have n0_ := Aside0.mk (Kd.R_below (Kd.R_elderB (by (with_reducible repeat (first | apply Kd.R_alloc | apply Kd.R_drewN | apply Kd.R_drew)); exact HO_5.out) gb148 (Nat.le_of_eq hg.symm)) hb); have n1_ := Aside0.mk (below_step (by repeat (first | (with_reducible first | exact HB.out | apply below_alloc | apply pw_below_drewN | apply below_drew1) | exact HB.out)) hb); have n2_ := Aside0.mk (hbox); have n3_ := Aside0.mk ((by rw [hg]; exact (below_size (by repeat (first | (with_reducible first | exact HB.out | apply below_alloc | apply pw_below_drewN | apply below_drew1) | exact HB.out))) : w.heap.size ≤ gb148)); have n4_ := Aside0.mk ((by rw [hg]; exact (below_size (by repeat (first | (with_reducible first | exact HB.out | apply below_alloc | apply pw_below_drewN | apply below_drew1) | exact HB.out))) : w.heap.size ≤ gb148)); clear HO_5; clear HB; have HO_5 := n0_; have HB := n1_; have BK148 := n2_; have GW148 := n3_; have GE148 := n4_; clear n0_ n1_ n2_ n3_ n4_; clear hb hbox hg; have p149 : 0 ≤ (x7_1 : Int) := of_decide_eq_true (by first | (with_reducible assumption) | assumption); have q149 : x7_1 < (t145.length : Int) := of_decide_eq_true (by first | (with_reducible assumption) | assumption); obtain ⟨ad149, e149, hx149_0, hx149_1, hx149_2, hx149_3⟩ := at_T41 (Kd.R_reads' HO_5.out).2.2 x7_1 p149 q149; cases e149; replace p149 := eq_true p149; replace q149 := eq_true q149; have hcz14_0 : w13.cell? ⟨gb148, 0, none⟩ = some (.int .i64 0) := (blk_cell BK148.out 0).trans rfl; have hcz14_1 : w13.cell? ⟨gb148, 1, none⟩ = some (.int .i64 0) := (blk_cell BK148.out 1).trans rfl; have hcz14_2 : w13.cell? ⟨gb148, 2, none⟩ = some (.int .i64 0) := (blk_cell BK148.out 2).trans rfl; have hcz14_3 : w13.cell? ⟨gb148, 3, none⟩ = some (.int .i64 0) := (blk_cell BK148.out 3).trans rfl; have hfz14_0 := blk_frozen BK148.out 0; have hfz14_1 := blk_frozen BK148.out 1; have hfz14_2 := blk_frozen BK148.out 2; have hfz14_3 := blk_frozen BK148.out 3)); try go_wp2_with (first | ((with_reducible refine gate_dst (N := 8) rfl ?_); refine box_event ?hg (N := 8) ?hd (cs := #[.int .i64 0, .int .i64 0, .int .i64 0, .int .i64 0]) (t := 41) ?hr ?_; (case hd => rfl); (case hg => rfl); (case hr => first | (go_simp; done) | (go_simp; rfl)); intro gb148 hg w13 hbox hb; have n0_ := Aside0.mk (Kd.R_below (Kd.R_elderB (by (with_reducible repeat (first | apply Kd.R_alloc | apply Kd.R_drewN | apply Kd.R_drew)); exact HO_5.out) gb148 (Nat.le_of_eq hg.symm)) hb); have n1_ := Aside0.mk (below_step (by repeat (first | (with_reducible first | exact HB.out | apply below_alloc | apply pw_below_drewN | apply below_drew1) | exact HB.out)) hb); have n2_ := Aside0.mk (hbox); have n3_ := Aside0.mk ((by rw [hg]; exact (below_size (by repeat (first | (with_reducible first | exact HB.out | apply below_alloc | apply pw_below_drewN | apply below_drew1) | exact HB.out))) : w.heap.size ≤ gb148)); have n4_ := Aside0.mk ((by rw [hg]; exact (below_size (by repeat (first | (with_reducible first | exact HB.out | apply below_alloc | apply pw_below_drewN | apply below_drew1) | exact HB.out))) : w.heap.size ≤ gb148)); clear HO_5; clear HB; have HO_5 := n0_; have HB := n1_; have BK148 := n2_; have GW148 := n3_; have GE148 := n4_; clear n0_ n1_ n2_ n3_ n4_; clear hb hbox hg; have p149 : 0 ≤ (x7_1 : Int) := of_decide_eq_true (by first | (with_reducible assumption) | assumption); have q149 : x7_1 < (t145.length : Int) := of_decide_eq_true (by first | (with_reducible assumption) | assumption); obtain ⟨ad149, e149, hx149_0, hx149_1, hx149_2, hx149_3⟩ := at_T41 (Kd.R_reads' HO_5.out).2.2 x7_1 p149 q149; cases e149; replace p149 := eq_true p149; replace q149 := eq_true q149; have hcz14_0 : w13.cell? ⟨gb148, 0, none⟩ = some (.int .i64 0) := (blk_cell BK148.out 0).trans rfl; have hcz14_1 : w13.cell? ⟨gb148, 1, none⟩ = some (.int .i64 0) := (blk_cell BK148.out 1).trans rfl; have hcz14_2 : w13.cell? ⟨gb148, 2, none⟩ = some (.int .i64 0) := (blk_cell BK148.out 2).trans rfl; have hcz14_3 : w13.cell? ⟨gb148, 3, none⟩ = some (.int .i64 0) := (blk_cell BK148.out 3).trans rfl; have hfz14_0 := blk_frozen BK148.out 0; have hfz14_1 := blk_frozen BK148.out 1; have hfz14_2 := blk_frozen BK148.out 2; have hfz14_3 := blk_frozen BK148.out 3)))
            go_loopg [9] k1 (fun kq v9 w' => ∃ (x9_2 : Int) (x149001_2 : Int) (x149002_2 : Int) (x149003_2 : Int), v9 = .int .i64 x9_2 ∧ Aside0 (coraclelaw24_AuditTotals.l1 kq l0 t145 x6_1 x7_1 x9_2 ((rd_T41 t145 x7_1).f0) x149001_2 x149002_2 x149003_2 = some r) ∧ Aside0 (kq ≤ k1) ∧ Aside0 (Kd.R k41 41 w' w.heap.size (fun k_ => k_ ≠ gb148) (.slice (some ad149) t145.length co12) t145) ∧ Aside0 (w'.heap[gb148]? = some (.cells #[.int .i64 ((rd_T41 t145 x7_1).f0), .int .i64 x149001_2, .int .i64 x149002_2, .int .i64 x149003_2] 41 (0, 0))) ∧ Aside0 (Below w.heap.size w w'))
            case atStart => exact ⟨(0), (0), (0), (0), (by first | rfl | (simp; done) | (simp [*]; done)), H', ⟨Nat.le_refl _⟩, ⟨by (with_reducible repeat (first | apply Kd.R_alloc | apply Kd.R_drewN | apply Kd.R_drew)); exact Kd.R_mono (Kd.R_far (p := ⟨gb148, 0, none⟩) (Kd.R_mono HO_5.out (fun k_ hk => (⟨hk, hk.2⟩ : _ ∧ k_ ≠ gb148))) (fun _ hk => hk.2) (.int .i64 ((rd_T41 t145 x7_1).f0))) (fun _ hk => hk.1.2)⟩, ⟨by (with_reducible repeat (first | refine blk_drewN ?_ _ | refine blk_drew ?_ | refine blk_alloc ?_ _)); refine blk_put (cs := #[.int .i64 0, .int .i64 0, .int .i64 0, .int .i64 0]) ?_ 0 _ rfl; (with_reducible repeat (first | refine blk_drewN ?_ _ | refine blk_drew ?_ | refine blk_alloc ?_ _)); exact BK148.out⟩, ⟨by repeat (first | (with_reducible first | exact HB.out | apply below_alloc | apply pw_below_drewN | apply below_drew1 | refine below_set ?_ GE148.out) | exact HB.out)⟩⟩
            case round =>
              clear H'
              try clear c1
              try clear p1
              try clear q1
              try clear hx1
              try clear p2
              try clear c3
              try clear c5
              try clear c10
              try clear c10b0
              try clear c11
              try clear c11b0
              try clear p14
              try clear q14
              try clear hx14
              try clear hcz14_0
              try clear hcz14_1
              try clear hcz14_2
              try clear hcz14_3
              try clear hfz14_0
              try clear hfz14_1
              try clear hfz14_2
              try clear hfz14_3
              try clear hx149_0
              try clear hx149_1
              try clear hx149_2
              try clear hx149_3
              try clear p149
              try clear p2
              try clear q149
              obtain ⟨x9_2, x149001_2, x149002_2, x149003_2, rfl, HA, HK2, HO_5, BK148, HB⟩ := hrel
              cases gk with
              | zero => exact absurd HA.out (by simp [coraclelaw24_AuditTotals.l1])
              | succ k2 =>
                have H := HA.out
                clear HA
                simp only [coraclelaw24_AuditTotals.l1] at H
                by_cases c15 : x9_2 < (l0.length : Int)
                · rw [if_pos c15] at H
                  have c15b0 : decide (x9_2 < (l0.length : Int)) = true := decide_eq_true c15
                  clear c15
                  by_cases c16 : 0 ≤ x9_2
                  · rw [if_pos c16] at H
                    have c16b0 : decide (0 ≤ x9_2) = true := decide_eq_true c16
                    clear c16
                    by_cases c17 : ((rd_T32 l0 x9_2).f3) = ((rd_T41 t145 x7_1).f0)
                    · rw [if_pos c17] at H
                      have c17b0 : (((rd_T32 l0 x9_2).f3) == ((rd_T41 t145 x7_1).f0)) = true := beq_iff_eq.mpr c17
                      have c17b1 : (((rd_T32 l0 x9_2).f3) != ((rd_T41 t145 x7_1).f0)) = false := bne_eq_false_iff_eq.mpr c17
                      clear c17
                      obtain ⟨bq18, hbq18⟩ : ∃ b_ : Bool, b_ = ((rd_T32 l0 x9_2).f5) := ⟨_, rfl⟩
                      replace H : (if bq18 = true then (if ((rd_T32 l0 x9_2).f4) = 0 then (coraclelaw24_AuditTotals.l1 k2 l0 t145 x6_1 x7_1 (wrap64 (x9_2 + 1)) ((rd_T41 t145 x7_1).f0) (wrap64 (x149001_2 + 1)) (wrap64 (x149002_2 + 1)) x149003_2) else (coraclelaw24_AuditTotals.l1 k2 l0 t145 x6_1 x7_1 (wrap64 (x9_2 + 1)) ((rd_T41 t145 x7_1).f0) (wrap64 (x149001_2 + 1)) (wrap64 (x149002_2 + 1)) (wrap64 (x149003_2 + 1)))) else (if ((rd_T32 l0 x9_2).f4) = 0 then (coraclelaw24_AuditTotals.l1 k2 l0 t145 x6_1 x7_1 (wrap64 (x9_2 + 1)) ((rd_T41 t145 x7_1).f0) (wrap64 (x149001_2 + 1)) x149002_2 x149003_2) else (coraclelaw24_AuditTotals.l1 k2 l0 t145 x6_1 x7_1 (wrap64 (x9_2 + 1)) ((rd_T41 t145 x7_1).f0) (wrap64 (x149001_2 + 1)) x149002_2 (wrap64 (x149003_2 + 1))))) = some r := by rw [← hbq18] at H; exact H
                      have Nbq18 := Aside0.mk hbq18
                      clear hbq18
                      by_cases c19 : bq18 = true
                      · subst c19
                        have H1 : (if ((rd_T32 l0 x9_2).f4) = 0 then (coraclelaw24_AuditTotals.l1 k2 l0 t145 x6_1 x7_1 (wrap64 (x9_2 + 1)) ((rd_T41 t145 x7_1).f0) (wrap64 (x149001_2 + 1)) (wrap64 (x149002_2 + 1)) x149003_2) else (coraclelaw24_AuditTotals.l1 k2 l0 t145 x6_1 x7_1 (wrap64 (x9_2 + 1)) ((rd_T41 t145 x7_1).f0) (wrap64 (x149001_2 + 1)) (wrap64 (x149002_2 + 1)) (wrap64 (x149003_2 + 1)))) = some r := by rw [if_pos rfl] at H; exact H
                        clear H
                        have H := H1
                        clear H1
                        by_cases c20 : ((rd_T32 l0 x9_2).f4) = 0
                        · rw [if_pos c20] at H
                          have c20b0 : (((rd_T32 l0 x9_2).f4) == 0) = true := beq_iff_eq.mpr c20
                          have c20b1 : (((rd_T32 l0 x9_2).f4) != 0) = false := bne_eq_false_iff_eq.mpr c20
                          clear c20
                          have H' := Aside0.mk H
                          clear H
                          have p153 : 0 ≤ (x9_2 : Int) := of_decide_eq_true (by first | (with_reducible assumption) | assumption)
                          have q153 : x9_2 < (l0.length : Int) := of_decide_eq_true (by first | (with_reducible assumption) | assumption)
                          obtain ⟨ad153, e153, hx153_0, hx153_1, hx153_2, hx153_3, hx153_4, hx153_5⟩ := at_T32 HR0.out x9_2 p153 q153
                          (try rw [← Nbq18.out] at hx153_5)
                          cases e153
                          replace hx153_0 := (HB.out.cell (World.block_lt_of_cell? w _ hx153_0)).trans hx153_0
                          replace hx153_1 := (HB.out.cell (World.block_lt_of_cell? w _ hx153_1)).trans hx153_1
                          replace hx153_2 := (HB.out.cell (World.block_lt_of_cell? w _ hx153_2)).trans hx153_2
                          replace hx153_3 := (HB.out.cell (World.block_lt_of_cell? w _ hx153_3)).trans hx153_3
                          replace hx153_4 := (HB.out.cell (World.block_lt_of_cell? w _ hx153_4)).trans hx153_4
                          replace hx153_5 := (HB.out.cell (World.block_lt_of_cell? w _ hx153_5)).trans hx153_5
                          replace p153 := eq_true p153
                          replace q153 := eq_true q153
                          have hcz21_0 : wr.cell? ⟨gb148, 0, none⟩ = some (.int .i64 ((rd_T41 t145 x7_1).f0)) := (blk_cell BK148.out 0).trans rfl
                          have hcz21_1 : wr.cell? ⟨gb148, 1, none⟩ = some (.int .i64 x149001_2) := (blk_cell BK148.out 1).trans rfl
                          have hcz21_2 : wr.cell? ⟨gb148, 2, none⟩ = some (.int .i64 x149002_2) := (blk_cell BK148.out 2).trans rfl
                          have hcz21_3 : wr.cell? ⟨gb148, 3, none⟩ = some (.int .i64 x149003_2) := (blk_cell BK148.out 3).trans rfl
                          have hfz21_0 := blk_frozen BK148.out 0
                          have hfz21_1 := blk_frozen BK148.out 1
                          have hfz21_2 := blk_frozen BK148.out 2
                          have hfz21_3 := blk_frozen BK148.out 3
                          have p154 : 0 ≤ (x9_2 : Int) := of_decide_eq_true (by first | (with_reducible assumption) | assumption)
                          have q154 : x9_2 < (l0.length : Int) := of_decide_eq_true (by first | (with_reducible assumption) | assumption)
                          obtain ⟨ad154, e154, hx154_0, hx154_1, hx154_2, hx154_3, hx154_4, hx154_5⟩ := at_T32 HR0.out x9_2 p154 q154
                          (try rw [← Nbq18.out] at hx154_5)
                          obtain rfl : ad153 = ad154 := (by injection e154)
                          have hn154_0 : ad153.block ≠ gb148 := Nat.ne_of_lt (Nat.lt_of_lt_of_le (by have := World.block_lt_of_cell? _ _ hx154_0; first | rwa [add_block] at this | exact this) GW148.out)
                          replace hx154_0 := (HB.out.cell (World.block_lt_of_cell? w _ hx154_0)).trans hx154_0
                          replace hx154_1 := (HB.out.cell (World.block_lt_of_cell? w _ hx154_1)).trans hx154_1
                          replace hx154_2 := (HB.out.cell (World.block_lt_of_cell? w _ hx154_2)).trans hx154_2
                          replace hx154_3 := (HB.out.cell (World.block_lt_of_cell? w _ hx154_3)).trans hx154_3
                          replace hx154_4 := (HB.out.cell (World.block_lt_of_cell? w _ hx154_4)).trans hx154_4
                          replace hx154_5 := (HB.out.cell (World.block_lt_of_cell? w _ hx154_5)).trans hx154_5
                          replace hx154_0 := (cell_far (p := ⟨gb148, 1, none⟩) (by first | (rw [add_block]; exact hn154_0) | (show (Addr.add _ _).block ≠ _; rw [add_block]; exact hn154_0) | exact hn154_0) (.int .i64 (wrap64 (x149001_2 + 1)))).trans hx154_0
                          replace hx154_1 := (cell_far (p := ⟨gb148, 1, none⟩) (by first | (rw [add_block]; exact hn154_0) | (show (Addr.add _ _).block ≠ _; rw [add_block]; exact hn154_0) | exact hn154_0) (.int .i64 (wrap64 (x149001_2 + 1)))).trans hx154_1
                          replace hx154_2 := (cell_far (p := ⟨gb148, 1, none⟩) (by first | (rw [add_block]; exact hn154_0) | (show (Addr.add _ _).block ≠ _; rw [add_block]; exact hn154_0) | exact hn154_0) (.int .i64 (wrap64 (x149001_2 + 1)))).trans hx154_2
                          replace hx154_3 := (cell_far (p := ⟨gb148, 1, none⟩) (by first | (rw [add_block]; exact hn154_0) | (show (Addr.add _ _).block ≠ _; rw [add_block]; exact hn154_0) | exact hn154_0) (.int .i64 (wrap64 (x149001_2 + 1)))).trans hx154_3
                          replace hx154_4 := (cell_far (p := ⟨gb148, 1, none⟩) (by first | (rw [add_block]; exact hn154_0) | (show (Addr.add _ _).block ≠ _; rw [add_block]; exact hn154_0) | exact hn154_0) (.int .i64 (wrap64 (x149001_2 + 1)))).trans hx154_4
                          replace hx154_5 := (cell_far (p := ⟨gb148, 1, none⟩) (by first | (rw [add_block]; exact hn154_0) | (show (Addr.add _ _).block ≠ _; rw [add_block]; exact hn154_0) | exact hn154_0) (.int .i64 (wrap64 (x149001_2 + 1)))).trans hx154_5
                          (try have hy154_0 := fun (n_ : Nat) => (show (((wr.drewN n_).setCell ⟨gb148, 1, none⟩ (.int .i64 (wrap64 (x149001_2 + 1))))).cell? _ = some _ from hx154_0))
                          (try have hy154_1 := fun (n_ : Nat) => (show (((wr.drewN n_).setCell ⟨gb148, 1, none⟩ (.int .i64 (wrap64 (x149001_2 + 1))))).cell? _ = some _ from hx154_1))
                          (try have hy154_2 := fun (n_ : Nat) => (show (((wr.drewN n_).setCell ⟨gb148, 1, none⟩ (.int .i64 (wrap64 (x149001_2 + 1))))).cell? _ = some _ from hx154_2))
                          (try have hy154_3 := fun (n_ : Nat) => (show (((wr.drewN n_).setCell ⟨gb148, 1, none⟩ (.int .i64 (wrap64 (x149001_2 + 1))))).cell? _ = some _ from hx154_3))
                          (try have hy154_4 := fun (n_ : Nat) => (show (((wr.drewN n_).setCell ⟨gb148, 1, none⟩ (.int .i64 (wrap64 (x149001_2 + 1))))).cell? _ = some _ from hx154_4))
                          (try have hy154_5 := fun (n_ : Nat) => (show (((wr.drewN n_).setCell ⟨gb148, 1, none⟩ (.int .i64 (wrap64 (x149001_2 + 1))))).cell? _ = some _ from hx154_5))
                          clear hn154_0
                          replace p154 := eq_true p154
                          replace q154 := eq_true q154
                          have p155 : 0 ≤ (x9_2 : Int) := of_decide_eq_true (by first | (with_reducible assumption) | assumption)
                          have q155 : x9_2 < (l0.length : Int) := of_decide_eq_true (by first | (with_reducible assumption) | assumption)
                          obtain ⟨ad155, e155, hx155_0, hx155_1, hx155_2, hx155_3, hx155_4, hx155_5⟩ := at_T32 HR0.out x9_2 p155 q155
                          (try rw [← Nbq18.out] at hx155_5)
                          obtain rfl : ad153 = ad155 := (by injection e155)
                          have hn155_0 : ad153.block ≠ gb148 := Nat.ne_of_lt (Nat.lt_of_lt_of_le (by have := World.block_lt_of_cell? _ _ hx155_0; first | rwa [add_block] at this | exact this) GW148.out)
                          have hn155_1 : ad153.block ≠ gb148 := Nat.ne_of_lt (Nat.lt_of_lt_of_le (by have := World.block_lt_of_cell? _ _ hx155_0; first | rwa [add_block] at this | exact this) GW148.out)
                          replace hx155_0 := (HB.out.cell (World.block_lt_of_cell? w _ hx155_0)).trans hx155_0
                          replace hx155_1 := (HB.out.cell (World.block_lt_of_cell? w _ hx155_1)).trans hx155_1
                          replace hx155_2 := (HB.out.cell (World.block_lt_of_cell? w _ hx155_2)).trans hx155_2
                          replace hx155_3 := (HB.out.cell (World.block_lt_of_cell? w _ hx155_3)).trans hx155_3
                          replace hx155_4 := (HB.out.cell (World.block_lt_of_cell? w _ hx155_4)).trans hx155_4
                          replace hx155_5 := (HB.out.cell (World.block_lt_of_cell? w _ hx155_5)).trans hx155_5
                          replace hx155_0 := (cell_far (p := ⟨gb148, 1, none⟩) (by first | (rw [add_block]; exact hn155_0) | (show (Addr.add _ _).block ≠ _; rw [add_block]; exact hn155_0) | exact hn155_0) (.int .i64 (wrap64 (x149001_2 + 1)))).trans hx155_0
                          replace hx155_1 := (cell_far (p := ⟨gb148, 1, none⟩) (by first | (rw [add_block]; exact hn155_0) | (show (Addr.add _ _).block ≠ _; rw [add_block]; exact hn155_0) | exact hn155_0) (.int .i64 (wrap64 (x149001_2 + 1)))).trans hx155_1
                          replace hx155_2 := (cell_far (p := ⟨gb148, 1, none⟩) (by first | (rw [add_block]; exact hn155_0) | (show (Addr.add _ _).block ≠ _; rw [add_block]; exact hn155_0) | exact hn155_0) (.int .i64 (wrap64 (x149001_2 + 1)))).trans hx155_2
                          replace hx155_3 := (cell_far (p := ⟨gb148, 1, none⟩) (by first | (rw [add_block]; exact hn155_0) | (show (Addr.add _ _).block ≠ _; rw [add_block]; exact hn155_0) | exact hn155_0) (.int .i64 (wrap64 (x149001_2 + 1)))).trans hx155_3
                          replace hx155_4 := (cell_far (p := ⟨gb148, 1, none⟩) (by first | (rw [add_block]; exact hn155_0) | (show (Addr.add _ _).block ≠ _; rw [add_block]; exact hn155_0) | exact hn155_0) (.int .i64 (wrap64 (x149001_2 + 1)))).trans hx155_4
                          replace hx155_5 := (cell_far (p := ⟨gb148, 1, none⟩) (by first | (rw [add_block]; exact hn155_0) | (show (Addr.add _ _).block ≠ _; rw [add_block]; exact hn155_0) | exact hn155_0) (.int .i64 (wrap64 (x149001_2 + 1)))).trans hx155_5
                          replace hx155_0 := (cell_far (p := ⟨gb148, 2, none⟩) (by first | (rw [add_block]; exact hn155_1) | (show (Addr.add _ _).block ≠ _; rw [add_block]; exact hn155_1) | exact hn155_1) (.int .i64 (wrap64 (x149002_2 + 1)))).trans hx155_0
                          replace hx155_1 := (cell_far (p := ⟨gb148, 2, none⟩) (by first | (rw [add_block]; exact hn155_1) | (show (Addr.add _ _).block ≠ _; rw [add_block]; exact hn155_1) | exact hn155_1) (.int .i64 (wrap64 (x149002_2 + 1)))).trans hx155_1
                          replace hx155_2 := (cell_far (p := ⟨gb148, 2, none⟩) (by first | (rw [add_block]; exact hn155_1) | (show (Addr.add _ _).block ≠ _; rw [add_block]; exact hn155_1) | exact hn155_1) (.int .i64 (wrap64 (x149002_2 + 1)))).trans hx155_2
                          replace hx155_3 := (cell_far (p := ⟨gb148, 2, none⟩) (by first | (rw [add_block]; exact hn155_1) | (show (Addr.add _ _).block ≠ _; rw [add_block]; exact hn155_1) | exact hn155_1) (.int .i64 (wrap64 (x149002_2 + 1)))).trans hx155_3
                          replace hx155_4 := (cell_far (p := ⟨gb148, 2, none⟩) (by first | (rw [add_block]; exact hn155_1) | (show (Addr.add _ _).block ≠ _; rw [add_block]; exact hn155_1) | exact hn155_1) (.int .i64 (wrap64 (x149002_2 + 1)))).trans hx155_4
                          replace hx155_5 := (cell_far (p := ⟨gb148, 2, none⟩) (by first | (rw [add_block]; exact hn155_1) | (show (Addr.add _ _).block ≠ _; rw [add_block]; exact hn155_1) | exact hn155_1) (.int .i64 (wrap64 (x149002_2 + 1)))).trans hx155_5
                          (try have hy155_0 := fun (n_ : Nat) => (show ((((wr.drewN n_).setCell ⟨gb148, 1, none⟩ (.int .i64 (wrap64 (x149001_2 + 1)))).setCell ⟨gb148, 2, none⟩ (.int .i64 (wrap64 (x149002_2 + 1))))).cell? _ = some _ from hx155_0))
                          (try have hy155_1 := fun (n_ : Nat) => (show ((((wr.drewN n_).setCell ⟨gb148, 1, none⟩ (.int .i64 (wrap64 (x149001_2 + 1)))).setCell ⟨gb148, 2, none⟩ (.int .i64 (wrap64 (x149002_2 + 1))))).cell? _ = some _ from hx155_1))
                          (try have hy155_2 := fun (n_ : Nat) => (show ((((wr.drewN n_).setCell ⟨gb148, 1, none⟩ (.int .i64 (wrap64 (x149001_2 + 1)))).setCell ⟨gb148, 2, none⟩ (.int .i64 (wrap64 (x149002_2 + 1))))).cell? _ = some _ from hx155_2))
                          (try have hy155_3 := fun (n_ : Nat) => (show ((((wr.drewN n_).setCell ⟨gb148, 1, none⟩ (.int .i64 (wrap64 (x149001_2 + 1)))).setCell ⟨gb148, 2, none⟩ (.int .i64 (wrap64 (x149002_2 + 1))))).cell? _ = some _ from hx155_3))
                          (try have hy155_4 := fun (n_ : Nat) => (show ((((wr.drewN n_).setCell ⟨gb148, 1, none⟩ (.int .i64 (wrap64 (x149001_2 + 1)))).setCell ⟨gb148, 2, none⟩ (.int .i64 (wrap64 (x149002_2 + 1))))).cell? _ = some _ from hx155_4))
                          (try have hy155_5 := fun (n_ : Nat) => (show ((((wr.drewN n_).setCell ⟨gb148, 1, none⟩ (.int .i64 (wrap64 (x149001_2 + 1)))).setCell ⟨gb148, 2, none⟩ (.int .i64 (wrap64 (x149002_2 + 1))))).cell? _ = some _ from hx155_5))
                          clear hn155_0
                          clear hn155_1
                          replace p155 := eq_true p155
                          replace q155 := eq_true q155
                          go_wp2
                          repeat (go_quiet (fail); try go_wp2)
                          go_roundg k2
                          case measure => have := HK1.out; have := HK2.out; omega
                          case rel => exact ⟨(wrap64 (x9_2 + 1)), (wrap64 (x149001_2 + 1)), (wrap64 (x149002_2 + 1)), (x149003_2), (by first | rfl | (simp; done) | (simp [*]; done)), H', ⟨by have := HK1.out; have := HK2.out; omega⟩, ⟨by (with_reducible repeat (first | apply Kd.R_alloc | apply Kd.R_drewN | apply Kd.R_drew)); exact Kd.R_mono (Kd.R_far (p := ⟨gb148, 2, none⟩) (Kd.R_far (p := ⟨gb148, 1, none⟩) (Kd.R_mono HO_5.out (fun k_ hk => (⟨hk, hk⟩ : _ ∧ k_ ≠ gb148))) (fun _ hk => hk.2) (.int .i64 (wrap64 (x149001_2 + 1)))) (fun _ hk => hk.2) (.int .i64 (wrap64 (x149002_2 + 1)))) (fun _ hk => hk.1)⟩, ⟨by (with_reducible repeat (first | refine blk_drewN ?_ _ | refine blk_drew ?_ | refine blk_alloc ?_ _)); refine blk_put (cs := #[.int .i64 ((rd_T41 t145 x7_1).f0), .int .i64 (wrap64 (x149001_2 + 1)), .int .i64 x149002_2, .int .i64 x149003_2]) ?_ 2 _ rfl; (with_reducible repeat (first | refine blk_drewN ?_ _ | refine blk_drew ?_ | refine blk_alloc ?_ _)); refine blk_put (cs := #[.int .i64 ((rd_T41 t145 x7_1).f0), .int .i64 x149001_2, .int .i64 x149002_2, .int .i64 x149003_2]) ?_ 1 _ rfl; (with_reducible repeat (first | refine blk_drewN ?_ _ | refine blk_drew ?_ | refine blk_alloc ?_ _)); exact BK148.out⟩, ⟨by repeat (first | (with_reducible first | exact HB.out | apply below_alloc | apply pw_below_drewN | apply below_drew1 | refine below_set ?_ GE148.out) | exact HB.out)⟩⟩
                        · rw [if_neg c20] at H
                          have c20b0 : (((rd_T32 l0 x9_2).f4) == 0) = false := beq_eq_false_iff_ne.mpr c20
                          have c20b1 : (((rd_T32 l0 x9_2).f4) != 0) = true := bne_iff_ne.mpr c20
                          have H' := Aside0.mk H
                          clear H
                          have p153 : 0 ≤ (x9_2 : Int) := of_decide_eq_true (by first | (with_reducible assumption) | assumption)
                          have q153 : x9_2 < (l0.length : Int) := of_decide_eq_true (by first | (with_reducible assumption) | assumption)
                          obtain ⟨ad153, e153, hx153_0, hx153_1, hx153_2, hx153_3, hx153_4, hx153_5⟩ := at_T32 HR0.out x9_2 p153 q153
                          (try rw [← Nbq18.out] at hx153_5)
                          cases e153
                          replace hx153_0 := (HB.out.cell (World.block_lt_of_cell? w _ hx153_0)).trans hx153_0
                          replace hx153_1 := (HB.out.cell (World.block_lt_of_cell? w _ hx153_1)).trans hx153_1
                          replace hx153_2 := (HB.out.cell (World.block_lt_of_cell? w _ hx153_2)).trans hx153_2
                          replace hx153_3 := (HB.out.cell (World.block_lt_of_cell? w _ hx153_3)).trans hx153_3
                          replace hx153_4 := (HB.out.cell (World.block_lt_of_cell? w _ hx153_4)).trans hx153_4
                          replace hx153_5 := (HB.out.cell (World.block_lt_of_cell? w _ hx153_5)).trans hx153_5
                          replace p153 := eq_true p153
                          replace q153 := eq_true q153
                          have hcz22_0 : wr.cell? ⟨gb148, 0, none⟩ = some (.int .i64 ((rd_T41 t145 x7_1).f0)) := (blk_cell BK148.out 0).trans rfl
                          have hcz22_1 : wr.cell? ⟨gb148, 1, none⟩ = some (.int .i64 x149001_2) := (blk_cell BK148.out 1).trans rfl
                          have hcz22_2 : wr.cell? ⟨gb148, 2, none⟩ = some (.int .i64 x149002_2) := (blk_cell BK148.out 2).trans rfl
                          have hcz22_3 : wr.cell? ⟨gb148, 3, none⟩ = some (.int .i64 x149003_2) := (blk_cell BK148.out 3).trans rfl
                          have hfz22_0 := blk_frozen BK148.out 0
                          have hfz22_1 := blk_frozen BK148.out 1
                          have hfz22_2 := blk_frozen BK148.out 2
                          have hfz22_3 := blk_frozen BK148.out 3
                          have p154 : 0 ≤ (x9_2 : Int) := of_decide_eq_true (by first | (with_reducible assumption) | assumption)
                          have q154 : x9_2 < (l0.length : Int) := of_decide_eq_true (by first | (with_reducible assumption) | assumption)
                          obtain ⟨ad154, e154, hx154_0, hx154_1, hx154_2, hx154_3, hx154_4, hx154_5⟩ := at_T32 HR0.out x9_2 p154 q154
                          (try rw [← Nbq18.out] at hx154_5)
                          obtain rfl : ad153 = ad154 := (by injection e154)
                          have hn154_0 : ad153.block ≠ gb148 := Nat.ne_of_lt (Nat.lt_of_lt_of_le (by have := World.block_lt_of_cell? _ _ hx154_0; first | rwa [add_block] at this | exact this) GW148.out)
                          replace hx154_0 := (HB.out.cell (World.block_lt_of_cell? w _ hx154_0)).trans hx154_0
                          replace hx154_1 := (HB.out.cell (World.block_lt_of_cell? w _ hx154_1)).trans hx154_1
                          replace hx154_2 := (HB.out.cell (World.block_lt_of_cell? w _ hx154_2)).trans hx154_2
                          replace hx154_3 := (HB.out.cell (World.block_lt_of_cell? w _ hx154_3)).trans hx154_3
                          replace hx154_4 := (HB.out.cell (World.block_lt_of_cell? w _ hx154_4)).trans hx154_4
                          replace hx154_5 := (HB.out.cell (World.block_lt_of_cell? w _ hx154_5)).trans hx154_5
                          replace hx154_0 := (cell_far (p := ⟨gb148, 1, none⟩) (by first | (rw [add_block]; exact hn154_0) | (show (Addr.add _ _).block ≠ _; rw [add_block]; exact hn154_0) | exact hn154_0) (.int .i64 (wrap64 (x149001_2 + 1)))).trans hx154_0
                          replace hx154_1 := (cell_far (p := ⟨gb148, 1, none⟩) (by first | (rw [add_block]; exact hn154_0) | (show (Addr.add _ _).block ≠ _; rw [add_block]; exact hn154_0) | exact hn154_0) (.int .i64 (wrap64 (x149001_2 + 1)))).trans hx154_1
                          replace hx154_2 := (cell_far (p := ⟨gb148, 1, none⟩) (by first | (rw [add_block]; exact hn154_0) | (show (Addr.add _ _).block ≠ _; rw [add_block]; exact hn154_0) | exact hn154_0) (.int .i64 (wrap64 (x149001_2 + 1)))).trans hx154_2
                          replace hx154_3 := (cell_far (p := ⟨gb148, 1, none⟩) (by first | (rw [add_block]; exact hn154_0) | (show (Addr.add _ _).block ≠ _; rw [add_block]; exact hn154_0) | exact hn154_0) (.int .i64 (wrap64 (x149001_2 + 1)))).trans hx154_3
                          replace hx154_4 := (cell_far (p := ⟨gb148, 1, none⟩) (by first | (rw [add_block]; exact hn154_0) | (show (Addr.add _ _).block ≠ _; rw [add_block]; exact hn154_0) | exact hn154_0) (.int .i64 (wrap64 (x149001_2 + 1)))).trans hx154_4
                          replace hx154_5 := (cell_far (p := ⟨gb148, 1, none⟩) (by first | (rw [add_block]; exact hn154_0) | (show (Addr.add _ _).block ≠ _; rw [add_block]; exact hn154_0) | exact hn154_0) (.int .i64 (wrap64 (x149001_2 + 1)))).trans hx154_5
                          (try have hy154_0 := fun (n_ : Nat) => (show (((wr.drewN n_).setCell ⟨gb148, 1, none⟩ (.int .i64 (wrap64 (x149001_2 + 1))))).cell? _ = some _ from hx154_0))
                          (try have hy154_1 := fun (n_ : Nat) => (show (((wr.drewN n_).setCell ⟨gb148, 1, none⟩ (.int .i64 (wrap64 (x149001_2 + 1))))).cell? _ = some _ from hx154_1))
                          (try have hy154_2 := fun (n_ : Nat) => (show (((wr.drewN n_).setCell ⟨gb148, 1, none⟩ (.int .i64 (wrap64 (x149001_2 + 1))))).cell? _ = some _ from hx154_2))
                          (try have hy154_3 := fun (n_ : Nat) => (show (((wr.drewN n_).setCell ⟨gb148, 1, none⟩ (.int .i64 (wrap64 (x149001_2 + 1))))).cell? _ = some _ from hx154_3))
                          (try have hy154_4 := fun (n_ : Nat) => (show (((wr.drewN n_).setCell ⟨gb148, 1, none⟩ (.int .i64 (wrap64 (x149001_2 + 1))))).cell? _ = some _ from hx154_4))
                          (try have hy154_5 := fun (n_ : Nat) => (show (((wr.drewN n_).setCell ⟨gb148, 1, none⟩ (.int .i64 (wrap64 (x149001_2 + 1))))).cell? _ = some _ from hx154_5))
                          clear hn154_0
                          replace p154 := eq_true p154
                          replace q154 := eq_true q154
                          have p155 : 0 ≤ (x9_2 : Int) := of_decide_eq_true (by first | (with_reducible assumption) | assumption)
                          have q155 : x9_2 < (l0.length : Int) := of_decide_eq_true (by first | (with_reducible assumption) | assumption)
                          obtain ⟨ad155, e155, hx155_0, hx155_1, hx155_2, hx155_3, hx155_4, hx155_5⟩ := at_T32 HR0.out x9_2 p155 q155
                          (try rw [← Nbq18.out] at hx155_5)
                          obtain rfl : ad153 = ad155 := (by injection e155)
                          have hn155_0 : ad153.block ≠ gb148 := Nat.ne_of_lt (Nat.lt_of_lt_of_le (by have := World.block_lt_of_cell? _ _ hx155_0; first | rwa [add_block] at this | exact this) GW148.out)
                          have hn155_1 : ad153.block ≠ gb148 := Nat.ne_of_lt (Nat.lt_of_lt_of_le (by have := World.block_lt_of_cell? _ _ hx155_0; first | rwa [add_block] at this | exact this) GW148.out)
                          replace hx155_0 := (HB.out.cell (World.block_lt_of_cell? w _ hx155_0)).trans hx155_0
                          replace hx155_1 := (HB.out.cell (World.block_lt_of_cell? w _ hx155_1)).trans hx155_1
                          replace hx155_2 := (HB.out.cell (World.block_lt_of_cell? w _ hx155_2)).trans hx155_2
                          replace hx155_3 := (HB.out.cell (World.block_lt_of_cell? w _ hx155_3)).trans hx155_3
                          replace hx155_4 := (HB.out.cell (World.block_lt_of_cell? w _ hx155_4)).trans hx155_4
                          replace hx155_5 := (HB.out.cell (World.block_lt_of_cell? w _ hx155_5)).trans hx155_5
                          replace hx155_0 := (cell_far (p := ⟨gb148, 1, none⟩) (by first | (rw [add_block]; exact hn155_0) | (show (Addr.add _ _).block ≠ _; rw [add_block]; exact hn155_0) | exact hn155_0) (.int .i64 (wrap64 (x149001_2 + 1)))).trans hx155_0
                          replace hx155_1 := (cell_far (p := ⟨gb148, 1, none⟩) (by first | (rw [add_block]; exact hn155_0) | (show (Addr.add _ _).block ≠ _; rw [add_block]; exact hn155_0) | exact hn155_0) (.int .i64 (wrap64 (x149001_2 + 1)))).trans hx155_1
                          replace hx155_2 := (cell_far (p := ⟨gb148, 1, none⟩) (by first | (rw [add_block]; exact hn155_0) | (show (Addr.add _ _).block ≠ _; rw [add_block]; exact hn155_0) | exact hn155_0) (.int .i64 (wrap64 (x149001_2 + 1)))).trans hx155_2
                          replace hx155_3 := (cell_far (p := ⟨gb148, 1, none⟩) (by first | (rw [add_block]; exact hn155_0) | (show (Addr.add _ _).block ≠ _; rw [add_block]; exact hn155_0) | exact hn155_0) (.int .i64 (wrap64 (x149001_2 + 1)))).trans hx155_3
                          replace hx155_4 := (cell_far (p := ⟨gb148, 1, none⟩) (by first | (rw [add_block]; exact hn155_0) | (show (Addr.add _ _).block ≠ _; rw [add_block]; exact hn155_0) | exact hn155_0) (.int .i64 (wrap64 (x149001_2 + 1)))).trans hx155_4
                          replace hx155_5 := (cell_far (p := ⟨gb148, 1, none⟩) (by first | (rw [add_block]; exact hn155_0) | (show (Addr.add _ _).block ≠ _; rw [add_block]; exact hn155_0) | exact hn155_0) (.int .i64 (wrap64 (x149001_2 + 1)))).trans hx155_5
                          replace hx155_0 := (cell_far (p := ⟨gb148, 2, none⟩) (by first | (rw [add_block]; exact hn155_1) | (show (Addr.add _ _).block ≠ _; rw [add_block]; exact hn155_1) | exact hn155_1) (.int .i64 (wrap64 (x149002_2 + 1)))).trans hx155_0
                          replace hx155_1 := (cell_far (p := ⟨gb148, 2, none⟩) (by first | (rw [add_block]; exact hn155_1) | (show (Addr.add _ _).block ≠ _; rw [add_block]; exact hn155_1) | exact hn155_1) (.int .i64 (wrap64 (x149002_2 + 1)))).trans hx155_1
                          replace hx155_2 := (cell_far (p := ⟨gb148, 2, none⟩) (by first | (rw [add_block]; exact hn155_1) | (show (Addr.add _ _).block ≠ _; rw [add_block]; exact hn155_1) | exact hn155_1) (.int .i64 (wrap64 (x149002_2 + 1)))).trans hx155_2
                          replace hx155_3 := (cell_far (p := ⟨gb148, 2, none⟩) (by first | (rw [add_block]; exact hn155_1) | (show (Addr.add _ _).block ≠ _; rw [add_block]; exact hn155_1) | exact hn155_1) (.int .i64 (wrap64 (x149002_2 + 1)))).trans hx155_3
                          replace hx155_4 := (cell_far (p := ⟨gb148, 2, none⟩) (by first | (rw [add_block]; exact hn155_1) | (show (Addr.add _ _).block ≠ _; rw [add_block]; exact hn155_1) | exact hn155_1) (.int .i64 (wrap64 (x149002_2 + 1)))).trans hx155_4
                          replace hx155_5 := (cell_far (p := ⟨gb148, 2, none⟩) (by first | (rw [add_block]; exact hn155_1) | (show (Addr.add _ _).block ≠ _; rw [add_block]; exact hn155_1) | exact hn155_1) (.int .i64 (wrap64 (x149002_2 + 1)))).trans hx155_5
                          (try have hy155_0 := fun (n_ : Nat) => (show ((((wr.drewN n_).setCell ⟨gb148, 1, none⟩ (.int .i64 (wrap64 (x149001_2 + 1)))).setCell ⟨gb148, 2, none⟩ (.int .i64 (wrap64 (x149002_2 + 1))))).cell? _ = some _ from hx155_0))
                          (try have hy155_1 := fun (n_ : Nat) => (show ((((wr.drewN n_).setCell ⟨gb148, 1, none⟩ (.int .i64 (wrap64 (x149001_2 + 1)))).setCell ⟨gb148, 2, none⟩ (.int .i64 (wrap64 (x149002_2 + 1))))).cell? _ = some _ from hx155_1))
                          (try have hy155_2 := fun (n_ : Nat) => (show ((((wr.drewN n_).setCell ⟨gb148, 1, none⟩ (.int .i64 (wrap64 (x149001_2 + 1)))).setCell ⟨gb148, 2, none⟩ (.int .i64 (wrap64 (x149002_2 + 1))))).cell? _ = some _ from hx155_2))
                          (try have hy155_3 := fun (n_ : Nat) => (show ((((wr.drewN n_).setCell ⟨gb148, 1, none⟩ (.int .i64 (wrap64 (x149001_2 + 1)))).setCell ⟨gb148, 2, none⟩ (.int .i64 (wrap64 (x149002_2 + 1))))).cell? _ = some _ from hx155_3))
                          (try have hy155_4 := fun (n_ : Nat) => (show ((((wr.drewN n_).setCell ⟨gb148, 1, none⟩ (.int .i64 (wrap64 (x149001_2 + 1)))).setCell ⟨gb148, 2, none⟩ (.int .i64 (wrap64 (x149002_2 + 1))))).cell? _ = some _ from hx155_4))
                          (try have hy155_5 := fun (n_ : Nat) => (show ((((wr.drewN n_).setCell ⟨gb148, 1, none⟩ (.int .i64 (wrap64 (x149001_2 + 1)))).setCell ⟨gb148, 2, none⟩ (.int .i64 (wrap64 (x149002_2 + 1))))).cell? _ = some _ from hx155_5))
                          clear hn155_0
                          clear hn155_1
                          replace p155 := eq_true p155
                          replace q155 := eq_true q155
                          go_wp2
                          repeat (go_quiet (fail); try go_wp2)
                          go_roundg k2
                          case measure => have := HK1.out; have := HK2.out; omega
                          case rel => exact ⟨(wrap64 (x9_2 + 1)), (wrap64 (x149001_2 + 1)), (wrap64 (x149002_2 + 1)), (wrap64 (x149003_2 + 1)), (by first | rfl | (simp; done) | (simp [*]; done)), H', ⟨by have := HK1.out; have := HK2.out; omega⟩, ⟨by (with_reducible repeat (first | apply Kd.R_alloc | apply Kd.R_drewN | apply Kd.R_drew)); exact Kd.R_mono (Kd.R_far (p := ⟨gb148, 3, none⟩) (Kd.R_far (p := ⟨gb148, 2, none⟩) (Kd.R_far (p := ⟨gb148, 1, none⟩) (Kd.R_mono HO_5.out (fun k_ hk => (⟨hk, hk⟩ : _ ∧ k_ ≠ gb148))) (fun _ hk => hk.2) (.int .i64 (wrap64 (x149001_2 + 1)))) (fun _ hk => hk.2) (.int .i64 (wrap64 (x149002_2 + 1)))) (fun _ hk => hk.2) (.int .i64 (wrap64 (x149003_2 + 1)))) (fun _ hk => hk.1)⟩, ⟨by (with_reducible repeat (first | refine blk_drewN ?_ _ | refine blk_drew ?_ | refine blk_alloc ?_ _)); refine blk_put (cs := #[.int .i64 ((rd_T41 t145 x7_1).f0), .int .i64 (wrap64 (x149001_2 + 1)), .int .i64 (wrap64 (x149002_2 + 1)), .int .i64 x149003_2]) ?_ 3 _ rfl; (with_reducible repeat (first | refine blk_drewN ?_ _ | refine blk_drew ?_ | refine blk_alloc ?_ _)); refine blk_put (cs := #[.int .i64 ((rd_T41 t145 x7_1).f0), .int .i64 (wrap64 (x149001_2 + 1)), .int .i64 x149002_2, .int .i64 x149003_2]) ?_ 2 _ rfl; (with_reducible repeat (first | refine blk_drewN ?_ _ | refine blk_drew ?_ | refine blk_alloc ?_ _)); refine blk_put (cs := #[.int .i64 ((rd_T41 t145 x7_1).f0), .int .i64 x149001_2, .int .i64 x149002_2, .int .i64 x149003_2]) ?_ 1 _ rfl; (with_reducible repeat (first | refine blk_drewN ?_ _ | refine blk_drew ?_ | refine blk_alloc ?_ _)); exact BK148.out⟩, ⟨by repeat (first | (with_reducible first | exact HB.out | apply below_alloc | apply pw_below_drewN | apply below_drew1 | refine below_set ?_ GE148.out) | exact HB.out)⟩⟩
                      · replace c19 := Bool.eq_false_iff.mpr c19
                        subst c19
                        have H1 : (if ((rd_T32 l0 x9_2).f4) = 0 then (coraclelaw24_AuditTotals.l1 k2 l0 t145 x6_1 x7_1 (wrap64 (x9_2 + 1)) ((rd_T41 t145 x7_1).f0) (wrap64 (x149001_2 + 1)) x149002_2 x149003_2) else (coraclelaw24_AuditTotals.l1 k2 l0 t145 x6_1 x7_1 (wrap64 (x9_2 + 1)) ((rd_T41 t145 x7_1).f0) (wrap64 (x149001_2 + 1)) x149002_2 (wrap64 (x149003_2 + 1)))) = some r := by rw [if_neg (show ¬ (false = true) by decide)] at H; exact H
                        clear H
                        have H := H1
                        clear H1
                        by_cases c23 : ((rd_T32 l0 x9_2).f4) = 0
                        · rw [if_pos c23] at H
                          have c23b0 : (((rd_T32 l0 x9_2).f4) == 0) = true := beq_iff_eq.mpr c23
                          have c23b1 : (((rd_T32 l0 x9_2).f4) != 0) = false := bne_eq_false_iff_eq.mpr c23
                          clear c23
                          have H' := Aside0.mk H
                          clear H
                          have p153 : 0 ≤ (x9_2 : Int) := of_decide_eq_true (by first | (with_reducible assumption) | assumption)
                          have q153 : x9_2 < (l0.length : Int) := of_decide_eq_true (by first | (with_reducible assumption) | assumption)
                          obtain ⟨ad153, e153, hx153_0, hx153_1, hx153_2, hx153_3, hx153_4, hx153_5⟩ := at_T32 HR0.out x9_2 p153 q153
                          (try rw [← Nbq18.out] at hx153_5)
                          cases e153
                          replace hx153_0 := (HB.out.cell (World.block_lt_of_cell? w _ hx153_0)).trans hx153_0
                          replace hx153_1 := (HB.out.cell (World.block_lt_of_cell? w _ hx153_1)).trans hx153_1
                          replace hx153_2 := (HB.out.cell (World.block_lt_of_cell? w _ hx153_2)).trans hx153_2
                          replace hx153_3 := (HB.out.cell (World.block_lt_of_cell? w _ hx153_3)).trans hx153_3
                          replace hx153_4 := (HB.out.cell (World.block_lt_of_cell? w _ hx153_4)).trans hx153_4
                          replace hx153_5 := (HB.out.cell (World.block_lt_of_cell? w _ hx153_5)).trans hx153_5
                          replace p153 := eq_true p153
                          replace q153 := eq_true q153
                          have hcz24_0 : wr.cell? ⟨gb148, 0, none⟩ = some (.int .i64 ((rd_T41 t145 x7_1).f0)) := (blk_cell BK148.out 0).trans rfl
                          have hcz24_1 : wr.cell? ⟨gb148, 1, none⟩ = some (.int .i64 x149001_2) := (blk_cell BK148.out 1).trans rfl
                          have hcz24_2 : wr.cell? ⟨gb148, 2, none⟩ = some (.int .i64 x149002_2) := (blk_cell BK148.out 2).trans rfl
                          have hcz24_3 : wr.cell? ⟨gb148, 3, none⟩ = some (.int .i64 x149003_2) := (blk_cell BK148.out 3).trans rfl
                          have hfz24_0 := blk_frozen BK148.out 0
                          have hfz24_1 := blk_frozen BK148.out 1
                          have hfz24_2 := blk_frozen BK148.out 2
                          have hfz24_3 := blk_frozen BK148.out 3
                          have p154 : 0 ≤ (x9_2 : Int) := of_decide_eq_true (by first | (with_reducible assumption) | assumption)
                          have q154 : x9_2 < (l0.length : Int) := of_decide_eq_true (by first | (with_reducible assumption) | assumption)
                          obtain ⟨ad154, e154, hx154_0, hx154_1, hx154_2, hx154_3, hx154_4, hx154_5⟩ := at_T32 HR0.out x9_2 p154 q154
                          (try rw [← Nbq18.out] at hx154_5)
                          obtain rfl : ad153 = ad154 := (by injection e154)
                          have hn154_0 : ad153.block ≠ gb148 := Nat.ne_of_lt (Nat.lt_of_lt_of_le (by have := World.block_lt_of_cell? _ _ hx154_0; first | rwa [add_block] at this | exact this) GW148.out)
                          replace hx154_0 := (HB.out.cell (World.block_lt_of_cell? w _ hx154_0)).trans hx154_0
                          replace hx154_1 := (HB.out.cell (World.block_lt_of_cell? w _ hx154_1)).trans hx154_1
                          replace hx154_2 := (HB.out.cell (World.block_lt_of_cell? w _ hx154_2)).trans hx154_2
                          replace hx154_3 := (HB.out.cell (World.block_lt_of_cell? w _ hx154_3)).trans hx154_3
                          replace hx154_4 := (HB.out.cell (World.block_lt_of_cell? w _ hx154_4)).trans hx154_4
                          replace hx154_5 := (HB.out.cell (World.block_lt_of_cell? w _ hx154_5)).trans hx154_5
                          replace hx154_0 := (cell_far (p := ⟨gb148, 1, none⟩) (by first | (rw [add_block]; exact hn154_0) | (show (Addr.add _ _).block ≠ _; rw [add_block]; exact hn154_0) | exact hn154_0) (.int .i64 (wrap64 (x149001_2 + 1)))).trans hx154_0
                          replace hx154_1 := (cell_far (p := ⟨gb148, 1, none⟩) (by first | (rw [add_block]; exact hn154_0) | (show (Addr.add _ _).block ≠ _; rw [add_block]; exact hn154_0) | exact hn154_0) (.int .i64 (wrap64 (x149001_2 + 1)))).trans hx154_1
                          replace hx154_2 := (cell_far (p := ⟨gb148, 1, none⟩) (by first | (rw [add_block]; exact hn154_0) | (show (Addr.add _ _).block ≠ _; rw [add_block]; exact hn154_0) | exact hn154_0) (.int .i64 (wrap64 (x149001_2 + 1)))).trans hx154_2
                          replace hx154_3 := (cell_far (p := ⟨gb148, 1, none⟩) (by first | (rw [add_block]; exact hn154_0) | (show (Addr.add _ _).block ≠ _; rw [add_block]; exact hn154_0) | exact hn154_0) (.int .i64 (wrap64 (x149001_2 + 1)))).trans hx154_3
                          replace hx154_4 := (cell_far (p := ⟨gb148, 1, none⟩) (by first | (rw [add_block]; exact hn154_0) | (show (Addr.add _ _).block ≠ _; rw [add_block]; exact hn154_0) | exact hn154_0) (.int .i64 (wrap64 (x149001_2 + 1)))).trans hx154_4
                          replace hx154_5 := (cell_far (p := ⟨gb148, 1, none⟩) (by first | (rw [add_block]; exact hn154_0) | (show (Addr.add _ _).block ≠ _; rw [add_block]; exact hn154_0) | exact hn154_0) (.int .i64 (wrap64 (x149001_2 + 1)))).trans hx154_5
                          (try have hy154_0 := fun (n_ : Nat) => (show (((wr.drewN n_).setCell ⟨gb148, 1, none⟩ (.int .i64 (wrap64 (x149001_2 + 1))))).cell? _ = some _ from hx154_0))
                          (try have hy154_1 := fun (n_ : Nat) => (show (((wr.drewN n_).setCell ⟨gb148, 1, none⟩ (.int .i64 (wrap64 (x149001_2 + 1))))).cell? _ = some _ from hx154_1))
                          (try have hy154_2 := fun (n_ : Nat) => (show (((wr.drewN n_).setCell ⟨gb148, 1, none⟩ (.int .i64 (wrap64 (x149001_2 + 1))))).cell? _ = some _ from hx154_2))
                          (try have hy154_3 := fun (n_ : Nat) => (show (((wr.drewN n_).setCell ⟨gb148, 1, none⟩ (.int .i64 (wrap64 (x149001_2 + 1))))).cell? _ = some _ from hx154_3))
                          (try have hy154_4 := fun (n_ : Nat) => (show (((wr.drewN n_).setCell ⟨gb148, 1, none⟩ (.int .i64 (wrap64 (x149001_2 + 1))))).cell? _ = some _ from hx154_4))
                          (try have hy154_5 := fun (n_ : Nat) => (show (((wr.drewN n_).setCell ⟨gb148, 1, none⟩ (.int .i64 (wrap64 (x149001_2 + 1))))).cell? _ = some _ from hx154_5))
                          clear hn154_0
                          replace p154 := eq_true p154
                          replace q154 := eq_true q154
                          have p156 : 0 ≤ (x9_2 : Int) := of_decide_eq_true (by first | (with_reducible assumption) | assumption)
                          have q156 : x9_2 < (l0.length : Int) := of_decide_eq_true (by first | (with_reducible assumption) | assumption)
                          obtain ⟨ad156, e156, hx156_0, hx156_1, hx156_2, hx156_3, hx156_4, hx156_5⟩ := at_T32 HR0.out x9_2 p156 q156
                          (try rw [← Nbq18.out] at hx156_5)
                          obtain rfl : ad153 = ad156 := (by injection e156)
                          have hn156_0 : ad153.block ≠ gb148 := Nat.ne_of_lt (Nat.lt_of_lt_of_le (by have := World.block_lt_of_cell? _ _ hx156_0; first | rwa [add_block] at this | exact this) GW148.out)
                          replace hx156_0 := (HB.out.cell (World.block_lt_of_cell? w _ hx156_0)).trans hx156_0
                          replace hx156_1 := (HB.out.cell (World.block_lt_of_cell? w _ hx156_1)).trans hx156_1
                          replace hx156_2 := (HB.out.cell (World.block_lt_of_cell? w _ hx156_2)).trans hx156_2
                          replace hx156_3 := (HB.out.cell (World.block_lt_of_cell? w _ hx156_3)).trans hx156_3
                          replace hx156_4 := (HB.out.cell (World.block_lt_of_cell? w _ hx156_4)).trans hx156_4
                          replace hx156_5 := (HB.out.cell (World.block_lt_of_cell? w _ hx156_5)).trans hx156_5
                          replace hx156_0 := (cell_far (p := ⟨gb148, 1, none⟩) (by first | (rw [add_block]; exact hn156_0) | (show (Addr.add _ _).block ≠ _; rw [add_block]; exact hn156_0) | exact hn156_0) (.int .i64 (wrap64 (x149001_2 + 1)))).trans hx156_0
                          replace hx156_1 := (cell_far (p := ⟨gb148, 1, none⟩) (by first | (rw [add_block]; exact hn156_0) | (show (Addr.add _ _).block ≠ _; rw [add_block]; exact hn156_0) | exact hn156_0) (.int .i64 (wrap64 (x149001_2 + 1)))).trans hx156_1
                          replace hx156_2 := (cell_far (p := ⟨gb148, 1, none⟩) (by first | (rw [add_block]; exact hn156_0) | (show (Addr.add _ _).block ≠ _; rw [add_block]; exact hn156_0) | exact hn156_0) (.int .i64 (wrap64 (x149001_2 + 1)))).trans hx156_2
                          replace hx156_3 := (cell_far (p := ⟨gb148, 1, none⟩) (by first | (rw [add_block]; exact hn156_0) | (show (Addr.add _ _).block ≠ _; rw [add_block]; exact hn156_0) | exact hn156_0) (.int .i64 (wrap64 (x149001_2 + 1)))).trans hx156_3
                          replace hx156_4 := (cell_far (p := ⟨gb148, 1, none⟩) (by first | (rw [add_block]; exact hn156_0) | (show (Addr.add _ _).block ≠ _; rw [add_block]; exact hn156_0) | exact hn156_0) (.int .i64 (wrap64 (x149001_2 + 1)))).trans hx156_4
                          replace hx156_5 := (cell_far (p := ⟨gb148, 1, none⟩) (by first | (rw [add_block]; exact hn156_0) | (show (Addr.add _ _).block ≠ _; rw [add_block]; exact hn156_0) | exact hn156_0) (.int .i64 (wrap64 (x149001_2 + 1)))).trans hx156_5
                          (try have hy156_0 := fun (n_ : Nat) => (show (((wr.drewN n_).setCell ⟨gb148, 1, none⟩ (.int .i64 (wrap64 (x149001_2 + 1))))).cell? _ = some _ from hx156_0))
                          (try have hy156_1 := fun (n_ : Nat) => (show (((wr.drewN n_).setCell ⟨gb148, 1, none⟩ (.int .i64 (wrap64 (x149001_2 + 1))))).cell? _ = some _ from hx156_1))
                          (try have hy156_2 := fun (n_ : Nat) => (show (((wr.drewN n_).setCell ⟨gb148, 1, none⟩ (.int .i64 (wrap64 (x149001_2 + 1))))).cell? _ = some _ from hx156_2))
                          (try have hy156_3 := fun (n_ : Nat) => (show (((wr.drewN n_).setCell ⟨gb148, 1, none⟩ (.int .i64 (wrap64 (x149001_2 + 1))))).cell? _ = some _ from hx156_3))
                          (try have hy156_4 := fun (n_ : Nat) => (show (((wr.drewN n_).setCell ⟨gb148, 1, none⟩ (.int .i64 (wrap64 (x149001_2 + 1))))).cell? _ = some _ from hx156_4))
                          (try have hy156_5 := fun (n_ : Nat) => (show (((wr.drewN n_).setCell ⟨gb148, 1, none⟩ (.int .i64 (wrap64 (x149001_2 + 1))))).cell? _ = some _ from hx156_5))
                          clear hn156_0
                          replace p156 := eq_true p156
                          replace q156 := eq_true q156
                          go_wp2
                          repeat (go_quiet (fail); try go_wp2)
                          go_roundg k2
                          case measure => have := HK1.out; have := HK2.out; omega
                          case rel => exact ⟨(wrap64 (x9_2 + 1)), (wrap64 (x149001_2 + 1)), (x149002_2), (x149003_2), (by first | rfl | (simp; done) | (simp [*]; done)), H', ⟨by have := HK1.out; have := HK2.out; omega⟩, ⟨by (with_reducible repeat (first | apply Kd.R_alloc | apply Kd.R_drewN | apply Kd.R_drew)); exact Kd.R_mono (Kd.R_far (p := ⟨gb148, 1, none⟩) (Kd.R_mono HO_5.out (fun k_ hk => (⟨hk, hk⟩ : _ ∧ k_ ≠ gb148))) (fun _ hk => hk.2) (.int .i64 (wrap64 (x149001_2 + 1)))) (fun _ hk => hk.1)⟩, ⟨by (with_reducible repeat (first | refine blk_drewN ?_ _ | refine blk_drew ?_ | refine blk_alloc ?_ _)); refine blk_put (cs := #[.int .i64 ((rd_T41 t145 x7_1).f0), .int .i64 x149001_2, .int .i64 x149002_2, .int .i64 x149003_2]) ?_ 1 _ rfl; (with_reducible repeat (first | refine blk_drewN ?_ _ | refine blk_drew ?_ | refine blk_alloc ?_ _)); exact BK148.out⟩, ⟨by repeat (first | (with_reducible first | exact HB.out | apply below_alloc | apply pw_below_drewN | apply below_drew1 | refine below_set ?_ GE148.out) | exact HB.out)⟩⟩
                        · rw [if_neg c23] at H
                          have c23b0 : (((rd_T32 l0 x9_2).f4) == 0) = false := beq_eq_false_iff_ne.mpr c23
                          have c23b1 : (((rd_T32 l0 x9_2).f4) != 0) = true := bne_iff_ne.mpr c23
                          have H' := Aside0.mk H
                          clear H
                          have p153 : 0 ≤ (x9_2 : Int) := of_decide_eq_true (by first | (with_reducible assumption) | assumption)
                          have q153 : x9_2 < (l0.length : Int) := of_decide_eq_true (by first | (with_reducible assumption) | assumption)
                          obtain ⟨ad153, e153, hx153_0, hx153_1, hx153_2, hx153_3, hx153_4, hx153_5⟩ := at_T32 HR0.out x9_2 p153 q153
                          (try rw [← Nbq18.out] at hx153_5)
                          cases e153
                          replace hx153_0 := (HB.out.cell (World.block_lt_of_cell? w _ hx153_0)).trans hx153_0
                          replace hx153_1 := (HB.out.cell (World.block_lt_of_cell? w _ hx153_1)).trans hx153_1
                          replace hx153_2 := (HB.out.cell (World.block_lt_of_cell? w _ hx153_2)).trans hx153_2
                          replace hx153_3 := (HB.out.cell (World.block_lt_of_cell? w _ hx153_3)).trans hx153_3
                          replace hx153_4 := (HB.out.cell (World.block_lt_of_cell? w _ hx153_4)).trans hx153_4
                          replace hx153_5 := (HB.out.cell (World.block_lt_of_cell? w _ hx153_5)).trans hx153_5
                          replace p153 := eq_true p153
                          replace q153 := eq_true q153
                          have hcz25_0 : wr.cell? ⟨gb148, 0, none⟩ = some (.int .i64 ((rd_T41 t145 x7_1).f0)) := (blk_cell BK148.out 0).trans rfl
                          have hcz25_1 : wr.cell? ⟨gb148, 1, none⟩ = some (.int .i64 x149001_2) := (blk_cell BK148.out 1).trans rfl
                          have hcz25_2 : wr.cell? ⟨gb148, 2, none⟩ = some (.int .i64 x149002_2) := (blk_cell BK148.out 2).trans rfl
                          have hcz25_3 : wr.cell? ⟨gb148, 3, none⟩ = some (.int .i64 x149003_2) := (blk_cell BK148.out 3).trans rfl
                          have hfz25_0 := blk_frozen BK148.out 0
                          have hfz25_1 := blk_frozen BK148.out 1
                          have hfz25_2 := blk_frozen BK148.out 2
                          have hfz25_3 := blk_frozen BK148.out 3
                          have p154 : 0 ≤ (x9_2 : Int) := of_decide_eq_true (by first | (with_reducible assumption) | assumption)
                          have q154 : x9_2 < (l0.length : Int) := of_decide_eq_true (by first | (with_reducible assumption) | assumption)
                          obtain ⟨ad154, e154, hx154_0, hx154_1, hx154_2, hx154_3, hx154_4, hx154_5⟩ := at_T32 HR0.out x9_2 p154 q154
                          (try rw [← Nbq18.out] at hx154_5)
                          obtain rfl : ad153 = ad154 := (by injection e154)
                          have hn154_0 : ad153.block ≠ gb148 := Nat.ne_of_lt (Nat.lt_of_lt_of_le (by have := World.block_lt_of_cell? _ _ hx154_0; first | rwa [add_block] at this | exact this) GW148.out)
                          replace hx154_0 := (HB.out.cell (World.block_lt_of_cell? w _ hx154_0)).trans hx154_0
                          replace hx154_1 := (HB.out.cell (World.block_lt_of_cell? w _ hx154_1)).trans hx154_1
                          replace hx154_2 := (HB.out.cell (World.block_lt_of_cell? w _ hx154_2)).trans hx154_2
                          replace hx154_3 := (HB.out.cell (World.block_lt_of_cell? w _ hx154_3)).trans hx154_3
                          replace hx154_4 := (HB.out.cell (World.block_lt_of_cell? w _ hx154_4)).trans hx154_4
                          replace hx154_5 := (HB.out.cell (World.block_lt_of_cell? w _ hx154_5)).trans hx154_5
                          replace hx154_0 := (cell_far (p := ⟨gb148, 1, none⟩) (by first | (rw [add_block]; exact hn154_0) | (show (Addr.add _ _).block ≠ _; rw [add_block]; exact hn154_0) | exact hn154_0) (.int .i64 (wrap64 (x149001_2 + 1)))).trans hx154_0
                          replace hx154_1 := (cell_far (p := ⟨gb148, 1, none⟩) (by first | (rw [add_block]; exact hn154_0) | (show (Addr.add _ _).block ≠ _; rw [add_block]; exact hn154_0) | exact hn154_0) (.int .i64 (wrap64 (x149001_2 + 1)))).trans hx154_1
                          replace hx154_2 := (cell_far (p := ⟨gb148, 1, none⟩) (by first | (rw [add_block]; exact hn154_0) | (show (Addr.add _ _).block ≠ _; rw [add_block]; exact hn154_0) | exact hn154_0) (.int .i64 (wrap64 (x149001_2 + 1)))).trans hx154_2
                          replace hx154_3 := (cell_far (p := ⟨gb148, 1, none⟩) (by first | (rw [add_block]; exact hn154_0) | (show (Addr.add _ _).block ≠ _; rw [add_block]; exact hn154_0) | exact hn154_0) (.int .i64 (wrap64 (x149001_2 + 1)))).trans hx154_3
                          replace hx154_4 := (cell_far (p := ⟨gb148, 1, none⟩) (by first | (rw [add_block]; exact hn154_0) | (show (Addr.add _ _).block ≠ _; rw [add_block]; exact hn154_0) | exact hn154_0) (.int .i64 (wrap64 (x149001_2 + 1)))).trans hx154_4
                          replace hx154_5 := (cell_far (p := ⟨gb148, 1, none⟩) (by first | (rw [add_block]; exact hn154_0) | (show (Addr.add _ _).block ≠ _; rw [add_block]; exact hn154_0) | exact hn154_0) (.int .i64 (wrap64 (x149001_2 + 1)))).trans hx154_5
                          (try have hy154_0 := fun (n_ : Nat) => (show (((wr.drewN n_).setCell ⟨gb148, 1, none⟩ (.int .i64 (wrap64 (x149001_2 + 1))))).cell? _ = some _ from hx154_0))
                          (try have hy154_1 := fun (n_ : Nat) => (show (((wr.drewN n_).setCell ⟨gb148, 1, none⟩ (.int .i64 (wrap64 (x149001_2 + 1))))).cell? _ = some _ from hx154_1))
                          (try have hy154_2 := fun (n_ : Nat) => (show (((wr.drewN n_).setCell ⟨gb148, 1, none⟩ (.int .i64 (wrap64 (x149001_2 + 1))))).cell? _ = some _ from hx154_2))
                          (try have hy154_3 := fun (n_ : Nat) => (show (((wr.drewN n_).setCell ⟨gb148, 1, none⟩ (.int .i64 (wrap64 (x149001_2 + 1))))).cell? _ = some _ from hx154_3))
                          (try have hy154_4 := fun (n_ : Nat) => (show (((wr.drewN n_).setCell ⟨gb148, 1, none⟩ (.int .i64 (wrap64 (x149001_2 + 1))))).cell? _ = some _ from hx154_4))
                          (try have hy154_5 := fun (n_ : Nat) => (show (((wr.drewN n_).setCell ⟨gb148, 1, none⟩ (.int .i64 (wrap64 (x149001_2 + 1))))).cell? _ = some _ from hx154_5))
                          clear hn154_0
                          replace p154 := eq_true p154
                          replace q154 := eq_true q154
                          have p156 : 0 ≤ (x9_2 : Int) := of_decide_eq_true (by first | (with_reducible assumption) | assumption)
                          have q156 : x9_2 < (l0.length : Int) := of_decide_eq_true (by first | (with_reducible assumption) | assumption)
                          obtain ⟨ad156, e156, hx156_0, hx156_1, hx156_2, hx156_3, hx156_4, hx156_5⟩ := at_T32 HR0.out x9_2 p156 q156
                          (try rw [← Nbq18.out] at hx156_5)
                          obtain rfl : ad153 = ad156 := (by injection e156)
                          have hn156_0 : ad153.block ≠ gb148 := Nat.ne_of_lt (Nat.lt_of_lt_of_le (by have := World.block_lt_of_cell? _ _ hx156_0; first | rwa [add_block] at this | exact this) GW148.out)
                          replace hx156_0 := (HB.out.cell (World.block_lt_of_cell? w _ hx156_0)).trans hx156_0
                          replace hx156_1 := (HB.out.cell (World.block_lt_of_cell? w _ hx156_1)).trans hx156_1
                          replace hx156_2 := (HB.out.cell (World.block_lt_of_cell? w _ hx156_2)).trans hx156_2
                          replace hx156_3 := (HB.out.cell (World.block_lt_of_cell? w _ hx156_3)).trans hx156_3
                          replace hx156_4 := (HB.out.cell (World.block_lt_of_cell? w _ hx156_4)).trans hx156_4
                          replace hx156_5 := (HB.out.cell (World.block_lt_of_cell? w _ hx156_5)).trans hx156_5
                          replace hx156_0 := (cell_far (p := ⟨gb148, 1, none⟩) (by first | (rw [add_block]; exact hn156_0) | (show (Addr.add _ _).block ≠ _; rw [add_block]; exact hn156_0) | exact hn156_0) (.int .i64 (wrap64 (x149001_2 + 1)))).trans hx156_0
                          replace hx156_1 := (cell_far (p := ⟨gb148, 1, none⟩) (by first | (rw [add_block]; exact hn156_0) | (show (Addr.add _ _).block ≠ _; rw [add_block]; exact hn156_0) | exact hn156_0) (.int .i64 (wrap64 (x149001_2 + 1)))).trans hx156_1
                          replace hx156_2 := (cell_far (p := ⟨gb148, 1, none⟩) (by first | (rw [add_block]; exact hn156_0) | (show (Addr.add _ _).block ≠ _; rw [add_block]; exact hn156_0) | exact hn156_0) (.int .i64 (wrap64 (x149001_2 + 1)))).trans hx156_2
                          replace hx156_3 := (cell_far (p := ⟨gb148, 1, none⟩) (by first | (rw [add_block]; exact hn156_0) | (show (Addr.add _ _).block ≠ _; rw [add_block]; exact hn156_0) | exact hn156_0) (.int .i64 (wrap64 (x149001_2 + 1)))).trans hx156_3
                          replace hx156_4 := (cell_far (p := ⟨gb148, 1, none⟩) (by first | (rw [add_block]; exact hn156_0) | (show (Addr.add _ _).block ≠ _; rw [add_block]; exact hn156_0) | exact hn156_0) (.int .i64 (wrap64 (x149001_2 + 1)))).trans hx156_4
                          replace hx156_5 := (cell_far (p := ⟨gb148, 1, none⟩) (by first | (rw [add_block]; exact hn156_0) | (show (Addr.add _ _).block ≠ _; rw [add_block]; exact hn156_0) | exact hn156_0) (.int .i64 (wrap64 (x149001_2 + 1)))).trans hx156_5
                          (try have hy156_0 := fun (n_ : Nat) => (show (((wr.drewN n_).setCell ⟨gb148, 1, none⟩ (.int .i64 (wrap64 (x149001_2 + 1))))).cell? _ = some _ from hx156_0))
                          (try have hy156_1 := fun (n_ : Nat) => (show (((wr.drewN n_).setCell ⟨gb148, 1, none⟩ (.int .i64 (wrap64 (x149001_2 + 1))))).cell? _ = some _ from hx156_1))
                          (try have hy156_2 := fun (n_ : Nat) => (show (((wr.drewN n_).setCell ⟨gb148, 1, none⟩ (.int .i64 (wrap64 (x149001_2 + 1))))).cell? _ = some _ from hx156_2))
                          (try have hy156_3 := fun (n_ : Nat) => (show (((wr.drewN n_).setCell ⟨gb148, 1, none⟩ (.int .i64 (wrap64 (x149001_2 + 1))))).cell? _ = some _ from hx156_3))
                          (try have hy156_4 := fun (n_ : Nat) => (show (((wr.drewN n_).setCell ⟨gb148, 1, none⟩ (.int .i64 (wrap64 (x149001_2 + 1))))).cell? _ = some _ from hx156_4))
                          (try have hy156_5 := fun (n_ : Nat) => (show (((wr.drewN n_).setCell ⟨gb148, 1, none⟩ (.int .i64 (wrap64 (x149001_2 + 1))))).cell? _ = some _ from hx156_5))
                          clear hn156_0
                          replace p156 := eq_true p156
                          replace q156 := eq_true q156
                          go_wp2
                          repeat (go_quiet (fail); try go_wp2)
                          go_roundg k2
                          case measure => have := HK1.out; have := HK2.out; omega
                          case rel => exact ⟨(wrap64 (x9_2 + 1)), (wrap64 (x149001_2 + 1)), (x149002_2), (wrap64 (x149003_2 + 1)), (by first | rfl | (simp; done) | (simp [*]; done)), H', ⟨by have := HK1.out; have := HK2.out; omega⟩, ⟨by (with_reducible repeat (first | apply Kd.R_alloc | apply Kd.R_drewN | apply Kd.R_drew)); exact Kd.R_mono (Kd.R_far (p := ⟨gb148, 3, none⟩) (Kd.R_far (p := ⟨gb148, 1, none⟩) (Kd.R_mono HO_5.out (fun k_ hk => (⟨hk, hk⟩ : _ ∧ k_ ≠ gb148))) (fun _ hk => hk.2) (.int .i64 (wrap64 (x149001_2 + 1)))) (fun _ hk => hk.2) (.int .i64 (wrap64 (x149003_2 + 1)))) (fun _ hk => hk.1)⟩, ⟨by (with_reducible repeat (first | refine blk_drewN ?_ _ | refine blk_drew ?_ | refine blk_alloc ?_ _)); refine blk_put (cs := #[.int .i64 ((rd_T41 t145 x7_1).f0), .int .i64 (wrap64 (x149001_2 + 1)), .int .i64 x149002_2, .int .i64 x149003_2]) ?_ 3 _ rfl; (with_reducible repeat (first | refine blk_drewN ?_ _ | refine blk_drew ?_ | refine blk_alloc ?_ _)); refine blk_put (cs := #[.int .i64 ((rd_T41 t145 x7_1).f0), .int .i64 x149001_2, .int .i64 x149002_2, .int .i64 x149003_2]) ?_ 1 _ rfl; (with_reducible repeat (first | refine blk_drewN ?_ _ | refine blk_drew ?_ | refine blk_alloc ?_ _)); exact BK148.out⟩, ⟨by repeat (first | (with_reducible first | exact HB.out | apply below_alloc | apply pw_below_drewN | apply below_drew1 | refine below_set ?_ GE148.out) | exact HB.out)⟩⟩
                    · rw [if_neg c17] at H
                      have c17b0 : (((rd_T32 l0 x9_2).f3) == ((rd_T41 t145 x7_1).f0)) = false := beq_eq_false_iff_ne.mpr c17
                      have c17b1 : (((rd_T32 l0 x9_2).f3) != ((rd_T41 t145 x7_1).f0)) = true := bne_iff_ne.mpr c17
                      have H' := Aside0.mk H
                      clear H
                      have p153 : 0 ≤ (x9_2 : Int) := of_decide_eq_true (by first | (with_reducible assumption) | assumption)
                      have q153 : x9_2 < (l0.length : Int) := of_decide_eq_true (by first | (with_reducible assumption) | assumption)
                      obtain ⟨ad153, e153, hx153_0, hx153_1, hx153_2, hx153_3, hx153_4, hx153_5⟩ := at_T32 HR0.out x9_2 p153 q153
                      cases e153
                      replace hx153_0 := (HB.out.cell (World.block_lt_of_cell? w _ hx153_0)).trans hx153_0
                      replace hx153_1 := (HB.out.cell (World.block_lt_of_cell? w _ hx153_1)).trans hx153_1
                      replace hx153_2 := (HB.out.cell (World.block_lt_of_cell? w _ hx153_2)).trans hx153_2
                      replace hx153_3 := (HB.out.cell (World.block_lt_of_cell? w _ hx153_3)).trans hx153_3
                      replace hx153_4 := (HB.out.cell (World.block_lt_of_cell? w _ hx153_4)).trans hx153_4
                      replace hx153_5 := (HB.out.cell (World.block_lt_of_cell? w _ hx153_5)).trans hx153_5
                      replace p153 := eq_true p153
                      replace q153 := eq_true q153
                      have hcz26_0 : wr.cell? ⟨gb148, 0, none⟩ = some (.int .i64 ((rd_T41 t145 x7_1).f0)) := (blk_cell BK148.out 0).trans rfl
                      have hcz26_1 : wr.cell? ⟨gb148, 1, none⟩ = some (.int .i64 x149001_2) := (blk_cell BK148.out 1).trans rfl
                      have hcz26_2 : wr.cell? ⟨gb148, 2, none⟩ = some (.int .i64 x149002_2) := (blk_cell BK148.out 2).trans rfl
                      have hcz26_3 : wr.cell? ⟨gb148, 3, none⟩ = some (.int .i64 x149003_2) := (blk_cell BK148.out 3).trans rfl
                      have hfz26_0 := blk_frozen BK148.out 0
                      have hfz26_1 := blk_frozen BK148.out 1
                      have hfz26_2 := blk_frozen BK148.out 2
                      have hfz26_3 := blk_frozen BK148.out 3
                      go_wp2
                      repeat (go_quiet (fail); try go_wp2)
                      go_roundg k2
                      case measure => have := HK1.out; have := HK2.out; omega
                      case rel => exact ⟨(wrap64 (x9_2 + 1)), (x149001_2), (x149002_2), (x149003_2), (by first | rfl | (simp; done) | (simp [*]; done)), H', ⟨by have := HK1.out; have := HK2.out; omega⟩, ⟨by (with_reducible repeat (first | apply Kd.R_alloc | apply Kd.R_drewN | apply Kd.R_drew)); exact HO_5.out⟩, ⟨by (with_reducible repeat (first | refine blk_drewN ?_ _ | refine blk_drew ?_ | refine blk_alloc ?_ _)); exact BK148.out⟩, ⟨by repeat (first | (with_reducible first | exact HB.out | apply below_alloc | apply pw_below_drewN | apply below_drew1 | refine below_set ?_ GE148.out) | exact HB.out)⟩⟩
                  · rw [if_neg c16] at H
                    exact absurd H (by simp)
                · rw [if_neg c15] at H
                  have c15b0 : decide (x9_2 < (l0.length : Int)) = false := decide_eq_false c15
                  clear c15
                  by_cases c27 : 0 ≤ x7_1
                  · rw [if_pos c27] at H
                    have c27b0 : decide (0 ≤ x7_1) = true := decide_eq_true c27
                    clear c27
                    by_cases c28 : x7_1 < (t145.length : Int)
                    · rw [if_pos c28] at H
                      have c28b0 : decide (x7_1 < (t145.length : Int)) = true := decide_eq_true c28
                      clear c28
                      by_cases c29 : (!(((rd_T41 t145 x7_1).f0) == ((rd_T41 t145 x7_1).f0)) || (!(x149001_2 == ((rd_T41 t145 x7_1).f1)) || (!(x149002_2 == ((rd_T41 t145 x7_1).f2)) || (!(x149003_2 == ((rd_T41 t145 x7_1).f3)))))) = true
                      · rw [if_pos c29] at H
                        have c29b0 : (!(((rd_T41 t145 x7_1).f0) == ((rd_T41 t145 x7_1).f0)) || (!(x149001_2 == ((rd_T41 t145 x7_1).f1)) || (!(x149002_2 == ((rd_T41 t145 x7_1).f2)) || (!(x149003_2 == ((rd_T41 t145 x7_1).f3)))))) = true := c29
                        have c29b0s := c29b0
                        simp only [beq_self_eq_true, Bool.not_true, Bool.false_or] at c29b0s
                        clear c29
                        obtain rfl := Option.some.inj H
                        have hcz30_0 : wr.cell? ⟨gb148, 0, none⟩ = some (.int .i64 ((rd_T41 t145 x7_1).f0)) := (blk_cell BK148.out 0).trans rfl
                        have hcz30_1 : wr.cell? ⟨gb148, 1, none⟩ = some (.int .i64 x149001_2) := (blk_cell BK148.out 1).trans rfl
                        have hcz30_2 : wr.cell? ⟨gb148, 2, none⟩ = some (.int .i64 x149002_2) := (blk_cell BK148.out 2).trans rfl
                        have hcz30_3 : wr.cell? ⟨gb148, 3, none⟩ = some (.int .i64 x149003_2) := (blk_cell BK148.out 3).trans rfl
                        have hfz30_0 := blk_frozen BK148.out 0
                        have hfz30_1 := blk_frozen BK148.out 1
                        have hfz30_2 := blk_frozen BK148.out 2
                        have hfz30_3 := blk_frozen BK148.out 3
                        have p150 : 0 ≤ (x7_1 : Int) := of_decide_eq_true (by first | (with_reducible assumption) | assumption)
                        have q150 : x7_1 < (t145.length : Int) := of_decide_eq_true (by first | (with_reducible assumption) | assumption)
                        obtain ⟨ad150, e150, hx150_0, hx150_1, hx150_2, hx150_3⟩ := at_T41 (Kd.R_reads' HO_5.out).2.2 x7_1 p150 q150
                        obtain rfl : ad149 = ad150 := (by injection e150)
                        replace p150 := eq_true p150
                        replace q150 := eq_true q150
                        go_wp2
                        repeat (go_quiet (fail); try go_wp2)
                        go_ret
                        exact ⟨by first | rfl | (simp [errW_none, errW_some] <;> rfl) | (simp [*, errW_none, errW_some] <;> rfl), by repeat (first | (with_reducible first | exact HB.out | apply below_alloc | apply pw_below_drewN | apply below_drew1 | refine below_set ?_ GE148.out) | exact HB.out)⟩
                      · rw [if_neg c29] at H
                        have c29b0 : (!(((rd_T41 t145 x7_1).f0) == ((rd_T41 t145 x7_1).f0)) || (!(x149001_2 == ((rd_T41 t145 x7_1).f1)) || (!(x149002_2 == ((rd_T41 t145 x7_1).f2)) || (!(x149003_2 == ((rd_T41 t145 x7_1).f3)))))) = false := by simpa using c29
                        have c29b0s := c29b0
                        simp only [beq_self_eq_true, Bool.not_true, Bool.false_or] at c29b0s
                        clear c29
                        by_cases c31 : x149001_2 = 0
                        · rw [if_pos c31] at H
                          have c31b0 : (x149001_2 == 0) = true := beq_iff_eq.mpr c31
                          have c31b1 : (x149001_2 != 0) = false := bne_eq_false_iff_eq.mpr c31
                          clear c31
                          obtain rfl := Option.some.inj H
                          have hcz32_0 : wr.cell? ⟨gb148, 0, none⟩ = some (.int .i64 ((rd_T41 t145 x7_1).f0)) := (blk_cell BK148.out 0).trans rfl
                          have hcz32_1 : wr.cell? ⟨gb148, 1, none⟩ = some (.int .i64 x149001_2) := (blk_cell BK148.out 1).trans rfl
                          have hcz32_2 : wr.cell? ⟨gb148, 2, none⟩ = some (.int .i64 x149002_2) := (blk_cell BK148.out 2).trans rfl
                          have hcz32_3 : wr.cell? ⟨gb148, 3, none⟩ = some (.int .i64 x149003_2) := (blk_cell BK148.out 3).trans rfl
                          have hfz32_0 := blk_frozen BK148.out 0
                          have hfz32_1 := blk_frozen BK148.out 1
                          have hfz32_2 := blk_frozen BK148.out 2
                          have hfz32_3 := blk_frozen BK148.out 3
                          have p150 : 0 ≤ (x7_1 : Int) := of_decide_eq_true (by first | (with_reducible assumption) | assumption)
                          have q150 : x7_1 < (t145.length : Int) := of_decide_eq_true (by first | (with_reducible assumption) | assumption)
                          obtain ⟨ad150, e150, hx150_0, hx150_1, hx150_2, hx150_3⟩ := at_T41 (Kd.R_reads' HO_5.out).2.2 x7_1 p150 q150
                          obtain rfl : ad149 = ad150 := (by injection e150)
                          replace p150 := eq_true p150
                          replace q150 := eq_true q150
                          go_wp2
                          repeat (go_quiet (fail); try go_wp2)
                          go_ret
                          exact ⟨by first | rfl | (simp [errW_none, errW_some] <;> rfl) | (simp [*, errW_none, errW_some] <;> rfl), by repeat (first | (with_reducible first | exact HB.out | apply below_alloc | apply pw_below_drewN | apply below_drew1 | refine below_set ?_ GE148.out) | exact HB.out)⟩
                        · rw [if_neg c31] at H
                          have c31b0 : (x149001_2 == 0) = false := beq_eq_false_iff_ne.mpr c31
                          have c31b1 : (x149001_2 != 0) = true := bne_iff_ne.mpr c31
                          by_cases c33 : x7_1 > 0
                          · rw [if_pos c33] at H
                            have c33b0 : decide (0 < x7_1) = true := decide_eq_true c33
                            clear c33
                            obtain ⟨ji34, hji34⟩ : ∃ j_ : Int, (wrap64 (x7_1 - 1)) = j_ := ⟨_, rfl⟩
                            replace H : (if 0 ≤ (ji34) then (if (ji34) < (t145.length : Int) then (if ((rd_T41 t145 (ji34)).f0) ≥ ((rd_T41 t145 x7_1).f0) then (some false) else (coraclelaw24_AuditTotals.l0 k2 l0 t145 (wrap64 (x6_1 + x149001_2)) (wrap64 (x7_1 + 1)))) else (none)) else (none)) = some r := by first | (rw [hji34] at H; exact H) | (simp only [hji34] at H ⊢; exact H)
                            have hji34w : (IntKind.i64.wrap (x7_1 - 1)) = ji34 := (i64_w _).trans hji34
                            by_cases c35 : 0 ≤ (ji34)
                            · rw [if_pos c35] at H
                              have c35b0 : decide (0 ≤ (ji34)) = true := decide_eq_true c35
                              clear c35
                              by_cases c36 : (ji34) < (t145.length : Int)
                              · rw [if_pos c36] at H
                                have c36b0 : decide ((ji34) < (t145.length : Int)) = true := decide_eq_true c36
                                clear c36
                                by_cases c37 : ((rd_T41 t145 (ji34)).f0) ≥ ((rd_T41 t145 x7_1).f0)
                                · rw [if_pos c37] at H
                                  have c37b0 : decide (((rd_T41 t145 x7_1).f0) ≤ ((rd_T41 t145 (ji34)).f0)) = true := decide_eq_true c37
                                  clear c37
                                  obtain rfl := Option.some.inj H
                                  have hcz38_0 : wr.cell? ⟨gb148, 0, none⟩ = some (.int .i64 ((rd_T41 t145 x7_1).f0)) := (blk_cell BK148.out 0).trans rfl
                                  have hcz38_1 : wr.cell? ⟨gb148, 1, none⟩ = some (.int .i64 x149001_2) := (blk_cell BK148.out 1).trans rfl
                                  have hcz38_2 : wr.cell? ⟨gb148, 2, none⟩ = some (.int .i64 x149002_2) := (blk_cell BK148.out 2).trans rfl
                                  have hcz38_3 : wr.cell? ⟨gb148, 3, none⟩ = some (.int .i64 x149003_2) := (blk_cell BK148.out 3).trans rfl
                                  have hfz38_0 := blk_frozen BK148.out 0
                                  have hfz38_1 := blk_frozen BK148.out 1
                                  have hfz38_2 := blk_frozen BK148.out 2
                                  have hfz38_3 := blk_frozen BK148.out 3
                                  have p150 : 0 ≤ (x7_1 : Int) := of_decide_eq_true (by first | (with_reducible assumption) | assumption)
                                  have q150 : x7_1 < (t145.length : Int) := of_decide_eq_true (by first | (with_reducible assumption) | assumption)
                                  obtain ⟨ad150, e150, hx150_0, hx150_1, hx150_2, hx150_3⟩ := at_T41 (Kd.R_reads' HO_5.out).2.2 x7_1 p150 q150
                                  obtain rfl : ad149 = ad150 := (by injection e150)
                                  replace p150 := eq_true p150
                                  replace q150 := eq_true q150
                                  have p151 : 0 ≤ ((ji34) : Int) := of_decide_eq_true (by first | (with_reducible assumption) | assumption)
                                  have q151 : (ji34) < (t145.length : Int) := of_decide_eq_true (by first | (with_reducible assumption) | assumption)
                                  obtain ⟨ad151, e151, hx151_0, hx151_1, hx151_2, hx151_3⟩ := at_T41 (Kd.R_reads' HO_5.out).2.2 (ji34) p151 q151
                                  obtain rfl : ad149 = ad151 := (by injection e151)
                                  replace p151 := eq_true p151
                                  replace q151 := eq_true q151
                                  have p152 : 0 ≤ (x7_1 : Int) := of_decide_eq_true (by first | (with_reducible assumption) | assumption)
                                  have q152 : x7_1 < (t145.length : Int) := of_decide_eq_true (by first | (with_reducible assumption) | assumption)
                                  obtain ⟨ad152, e152, hx152_0, hx152_1, hx152_2, hx152_3⟩ := at_T41 (Kd.R_reads' HO_5.out).2.2 x7_1 p152 q152
                                  obtain rfl : ad149 = ad152 := (by injection e152)
                                  replace p152 := eq_true p152
                                  replace q152 := eq_true q152
                                  go_wp2
                                  repeat (go_quiet (fail); try go_wp2)
                                  go_ret
                                  exact ⟨by first | rfl | (simp [errW_none, errW_some] <;> rfl) | (simp only [← hji34]; first | rfl | (simp [errW_none, errW_some] <;> rfl)) | (simp [*, errW_none, errW_some] <;> rfl), by repeat (first | (with_reducible first | exact HB.out | apply below_alloc | apply pw_below_drewN | apply below_drew1 | refine below_set ?_ GE148.out) | exact HB.out)⟩
                                · rw [if_neg c37] at H
                                  have c37b0 : decide (((rd_T41 t145 x7_1).f0) ≤ ((rd_T41 t145 (ji34)).f0)) = false := decide_eq_false c37
                                  clear c37
                                  have H' := Aside0.mk H
                                  clear H
                                  have hcz39_0 : wr.cell? ⟨gb148, 0, none⟩ = some (.int .i64 ((rd_T41 t145 x7_1).f0)) := (blk_cell BK148.out 0).trans rfl
                                  have hcz39_1 : wr.cell? ⟨gb148, 1, none⟩ = some (.int .i64 x149001_2) := (blk_cell BK148.out 1).trans rfl
                                  have hcz39_2 : wr.cell? ⟨gb148, 2, none⟩ = some (.int .i64 x149002_2) := (blk_cell BK148.out 2).trans rfl
                                  have hcz39_3 : wr.cell? ⟨gb148, 3, none⟩ = some (.int .i64 x149003_2) := (blk_cell BK148.out 3).trans rfl
                                  have hfz39_0 := blk_frozen BK148.out 0
                                  have hfz39_1 := blk_frozen BK148.out 1
                                  have hfz39_2 := blk_frozen BK148.out 2
                                  have hfz39_3 := blk_frozen BK148.out 3
                                  have p150 : 0 ≤ (x7_1 : Int) := of_decide_eq_true (by first | (with_reducible assumption) | assumption)
                                  have q150 : x7_1 < (t145.length : Int) := of_decide_eq_true (by first | (with_reducible assumption) | assumption)
                                  obtain ⟨ad150, e150, hx150_0, hx150_1, hx150_2, hx150_3⟩ := at_T41 (Kd.R_reads' HO_5.out).2.2 x7_1 p150 q150
                                  obtain rfl : ad149 = ad150 := (by injection e150)
                                  replace p150 := eq_true p150
                                  replace q150 := eq_true q150
                                  have p151 : 0 ≤ ((ji34) : Int) := of_decide_eq_true (by first | (with_reducible assumption) | assumption)
                                  have q151 : (ji34) < (t145.length : Int) := of_decide_eq_true (by first | (with_reducible assumption) | assumption)
                                  obtain ⟨ad151, e151, hx151_0, hx151_1, hx151_2, hx151_3⟩ := at_T41 (Kd.R_reads' HO_5.out).2.2 (ji34) p151 q151
                                  obtain rfl : ad149 = ad151 := (by injection e151)
                                  replace p151 := eq_true p151
                                  replace q151 := eq_true q151
                                  have p152 : 0 ≤ (x7_1 : Int) := of_decide_eq_true (by first | (with_reducible assumption) | assumption)
                                  have q152 : x7_1 < (t145.length : Int) := of_decide_eq_true (by first | (with_reducible assumption) | assumption)
                                  obtain ⟨ad152, e152, hx152_0, hx152_1, hx152_2, hx152_3⟩ := at_T41 (Kd.R_reads' HO_5.out).2.2 x7_1 p152 q152
                                  obtain rfl : ad149 = ad152 := (by injection e152)
                                  replace p152 := eq_true p152
                                  replace q152 := eq_true q152
                                  go_wp2
                                  repeat (go_quiet (fail); try go_wp2)
                                  go_roundg k2
                                  case measure => have := HK1.out; have := HK2.out; omega
                                  case rel => exact ⟨(wrap64 (x6_1 + x149001_2)), (wrap64 (x7_1 + 1)), (by first | rfl | (simp; done) | (simp [*]; done)), (by first | rfl | (simp; done) | (simp [*]; done)), H', ⟨by have := HK1.out; have := HK2.out; omega⟩, ⟨by (with_reducible repeat (first | apply Kd.R_alloc | apply Kd.R_drewN | apply Kd.R_drew)); exact Kd.R_mono HO_5.out (fun _ hk => trivial)⟩, ⟨by repeat (first | (with_reducible first | exact HB.out | apply below_alloc | apply pw_below_drewN | apply below_drew1 | refine below_set ?_ GE148.out) | exact HB.out)⟩⟩
                              · rw [if_neg c36] at H
                                exact absurd H (by simp)
                            · rw [if_neg c35] at H
                              exact absurd H (by simp)
                          · rw [if_neg c33] at H
                            have c33b0 : decide (0 < x7_1) = false := decide_eq_false c33
                            clear c33
                            have H' := Aside0.mk H
                            clear H
                            have hcz40_0 : wr.cell? ⟨gb148, 0, none⟩ = some (.int .i64 ((rd_T41 t145 x7_1).f0)) := (blk_cell BK148.out 0).trans rfl
                            have hcz40_1 : wr.cell? ⟨gb148, 1, none⟩ = some (.int .i64 x149001_2) := (blk_cell BK148.out 1).trans rfl
                            have hcz40_2 : wr.cell? ⟨gb148, 2, none⟩ = some (.int .i64 x149002_2) := (blk_cell BK148.out 2).trans rfl
                            have hcz40_3 : wr.cell? ⟨gb148, 3, none⟩ = some (.int .i64 x149003_2) := (blk_cell BK148.out 3).trans rfl
                            have hfz40_0 := blk_frozen BK148.out 0
                            have hfz40_1 := blk_frozen BK148.out 1
                            have hfz40_2 := blk_frozen BK148.out 2
                            have hfz40_3 := blk_frozen BK148.out 3
                            have p150 : 0 ≤ (x7_1 : Int) := of_decide_eq_true (by first | (with_reducible assumption) | assumption)
                            have q150 : x7_1 < (t145.length : Int) := of_decide_eq_true (by first | (with_reducible assumption) | assumption)
                            obtain ⟨ad150, e150, hx150_0, hx150_1, hx150_2, hx150_3⟩ := at_T41 (Kd.R_reads' HO_5.out).2.2 x7_1 p150 q150
                            obtain rfl : ad149 = ad150 := (by injection e150)
                            replace p150 := eq_true p150
                            replace q150 := eq_true q150
                            go_wp2
                            repeat (go_quiet (fail); try go_wp2)
                            go_roundg k2
                            case measure => have := HK1.out; have := HK2.out; omega
                            case rel => exact ⟨(wrap64 (x6_1 + x149001_2)), (wrap64 (x7_1 + 1)), (by first | rfl | (simp; done) | (simp [*]; done)), (by first | rfl | (simp; done) | (simp [*]; done)), H', ⟨by have := HK1.out; have := HK2.out; omega⟩, ⟨by (with_reducible repeat (first | apply Kd.R_alloc | apply Kd.R_drewN | apply Kd.R_drew)); exact Kd.R_mono HO_5.out (fun _ hk => trivial)⟩, ⟨by repeat (first | (with_reducible first | exact HB.out | apply below_alloc | apply pw_below_drewN | apply below_drew1 | refine below_set ?_ GE148.out) | exact HB.out)⟩⟩
                    · rw [if_neg c28] at H
                      exact absurd H (by simp)
                  · rw [if_neg c27] at H
                    exact absurd H (by simp)
          · rw [if_neg c11] at H
            exact absurd H (by simp)
        · rw [if_neg c10] at H
          have c10b0 : decide (x7_1 < (t145.length : Int)) = false := decide_eq_false c10
          clear c10
          obtain rfl := Option.some.inj H
          obtain ⟨Ao41, co41, eo41⟩ := Kd.R_slice HO_5.out
          subst eo41
          go_wp2
          repeat (go_quiet (fail); try go_wp2)
          go_ret
          exact ⟨by first | rfl | (simp [errW_none, errW_some] <;> rfl) | (simp [*, errW_none, errW_some] <;> rfl), by repeat (first | (with_reducible first | exact HB.out | apply below_alloc | apply pw_below_drewN | apply below_drew1) | exact HB.out)⟩
  · replace c3 := Bool.eq_false_iff.mpr c3
    subst c3
    have H1 : (some false) = some r := by rw [if_neg (show ¬ (false = true) by decide)] at H; exact H
    clear H
    have H := H1
    clear H1
    obtain rfl := Option.some.inj H
    go_enter Try.func5, Try.ntmps5
    go_wp2_with (first | (go_at_call 7; (with_reducible refine (coraclelaw24_speaks.calls  false _ A2.out).mono ?_); rintro e w42 ⟨rfl, hb⟩; have n0_ := Aside0.mk (below_step (by repeat (first | (with_reducible first | exact HB.out | apply below_alloc | apply pw_below_drewN | apply below_drew1) | exact HB.out)) hb); clear HB; have HB := n0_; clear n0_; (try clear hb); (try clear hb2); (try clear hk); (try clear hi)))
    repeat (go_quiet (first | (go_at_call 7; (with_reducible refine (coraclelaw24_speaks.calls  false _ A2.out).mono ?_); rintro e w42 ⟨rfl, hb⟩; have n0_ := Aside0.mk (below_step (by repeat (first | (with_reducible first | exact HB.out | apply below_alloc | apply pw_below_drewN | apply below_drew1) | exact HB.out)) hb); clear HB; have HB := n0_; clear n0_; (try clear hb); (try clear hb2); (try clear hk); (try clear hi))); try go_wp2_with (first | (go_at_call 7; (with_reducible refine (coraclelaw24_speaks.calls  false _ A2.out).mono ?_); rintro e w42 ⟨rfl, hb⟩; have n0_ := Aside0.mk (below_step (by repeat (first | (with_reducible first | exact HB.out | apply below_alloc | apply pw_below_drewN | apply below_drew1) | exact HB.out)) hb); clear HB; have HB := n0_; clear n0_; (try clear hb); (try clear hb2); (try clear hk); (try clear hi))))
    go_ret
    exact ⟨by first | rfl | (simp [errW_none, errW_some] <;> rfl) | (simp [*, errW_none, errW_some] <;> rfl), by repeat (first | (with_reducible first | exact HB.out | apply below_alloc | apply pw_below_drewN | apply below_drew1) | exact HB.out)⟩

end Go.Proofs.Ytelfachmfcjpoaa.PA
