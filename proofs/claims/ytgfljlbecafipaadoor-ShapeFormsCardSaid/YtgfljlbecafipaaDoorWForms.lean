/- The walk of coraclelaw10.ShapeForms. -/
import Derived.Test.YtgfljlbecafipaaDoorPl
namespace Go.Proofs.YtgfljlbecafipaaDoor.Mo
open Go.RowKit Go.Lib Go.Proofs.YtgfljlbecafipaaDoorW.PrintWords Go.Proofs.YtgfljlbecafipaaDoorW.PrintLast Go.Proofs.YtgfljlbecafipaaDoorW.PrintMore
set_option linter.unusedVariables false
set_option linter.unusedSimpArgs false

theorem check_calls (l : List UInt8) (h : okForm l = true) (w : World) :
    Calls Tryd.prog 7 #[.string ⟨l.toArray⟩] w fun e w' => e = .returned (.bool true) ∧ Below w.heap.size w w' := by
  obtain ⟨s, hs⟩ := okForm_is h
  have hp := PA.schema_parse.calls 200 ⟨l.toArray⟩ s 0 w hs
  clear hs
  generalize (⟨l.toArray⟩ : ByteArray) = t at hp ⊢
  go_enter Tryd.func7, Tryd.ntmps7
  go_wp2_with (first
    | (go_at_call 13; refine hp.mono ?_; rintro e w1 ⟨v0, rfl, _, hb⟩; have HB := Aside0.mk hb; clear hb hp))
  go_ret
  exact ⟨rfl, HB.out⟩

theorem speaks_calls (m : Int) (w : World) (hm : w.cell? ⟨0, 0, none⟩ = some (.int .i64 m)) :
    Calls Tryd.prog 4 #[] w fun e w' => e = .returned (.bool true) ∧ Below w.heap.size w w' := by
  have hO := of_calls 100003 1 m w hm
  have e1 : (⟨(ofF 100003 1).1.toArray⟩ : ByteArray) = ⟨#[111, 54, 52]⟩ := by kernel_rfl
  have e2 : (⟨(ofF 100003 1).2.1.toArray⟩ : ByteArray) = ⟨#[60, 48, 58, 117, 117, 117, 117, 117, 113, 113, 117, 117, 113, 113, 117, 117, 117, 117, 117, 117, 44, 45, 58, 62]⟩ := by kernel_rfl
  have e3 : (ofF 100003 1).2.2 = true := by kernel_rfl
  rw [e1, e2, e3] at hO
  clear e1 e2 e3 hm
  go_enter Tryd.func4, Tryd.ntmps4
  go_wp2_with (first
    | (go_at_call 5; refine hO.mono ?_; rintro e w1 ⟨rfl, hb⟩; have HB := Aside0.mk hb; clear hb hO))
  go_ret
  exact ⟨rfl, HB.out⟩

def changes (g p : Int) : Bool := (g == 100003 && (p == 2 || p == 7 || (decide (8 ≤ p) && decide (p ≤ 15)))) || (g == 100005 && (p == 1 || p == 3 || p == 4))
theorem changes_is (g p : Int) : PA.shape_Changes.f g p = some (changes g p) := by
  unfold PA.shape_Changes.f changes
  by_cases h3 : g = 100003
  · subst h3
    rw [if_pos rfl]
    by_cases h2 : p = 2
    · subst h2; rfl
    · rw [if_neg h2]
      by_cases h7 : p = 7
      · subst h7; rfl
      · rw [if_neg h7]
        by_cases h8 : p ≥ 8
        · rw [if_pos h8]; simp [h2, h7, show (8 : Int) ≤ p from h8]
        · rw [if_neg h8]; simp [h2, h7, show ¬ (8 : Int) ≤ p from h8]
  · rw [if_neg h3]
    by_cases h5 : g = 100005
    · subst h5
      rw [if_pos rfl]
      by_cases h1 : p = 1
      · subst h1; rfl
      · rw [if_neg h1]
        by_cases h3' : p = 3
        · subst h3'; rfl
        · rw [if_neg h3']; simp [h1, h3']
    · rw [if_neg h5]; simp [h3, h5]

set_option maxRecDepth 100000 in
set_option maxHeartbeats 4000000 in
theorem walk_a (m : Int)  (w : World) (hm : w.cell? ⟨0, 0, none⟩ = some (.int .i64 m)) :
    Calls Tryd.prog 3 #[.int .i64 100003, .int .i64 2] w fun e w' => e = .returned (.bool true) ∧ Below w.heap.size w w' := by
  have hS := speaks_calls m w hm
  have hR := PA.coracleref10_Of.calls 3 100003 2 _ _ _ (h := ref_is 100003 2)
  have hC := PA.shape_Changes.calls 100003 2 _ (h := changes_is 100003 2)
  have hO : ∀ W : World, W.cell? ⟨0, 0, none⟩ = some (.int .i64 m) → _ := fun W hW => of_calls 100003 2 m W hW
  have hK1 := check_calls _ (forms_ok 100003 2).1
  have hK2 := check_calls _ (forms_ok 100003 2).2
  have HM := Aside0.mk hm
  clear hm
  generalize hA : (⟨(ofF 100003 2).1.toArray⟩ : ByteArray) = A at hR hO hK1
  generalize hB : (⟨(ofF 100003 2).2.1.toArray⟩ : ByteArray) = B at hR hO hK2
  generalize (ofF 100003 2).2.2 = ok at hR hO
  clear hA hB
  have hch : changes 100003 2 = true := by unfold changes; rfl
  rw [hch] at hC
  clear hch
  go_enter Tryd.func3, Tryd.ntmps3
  go_wp2_with (first
    | (go_at_call 4; refine hS.mono ?_; rintro e w1 ⟨rfl, hb⟩; have HB1 := Aside0.mk hb; clear hb hS)
    | (go_at_call 5; refine (hO _ (Lib.Below.cellOf HB1.out HM.out (Nat.le_refl _))).mono ?_; rintro e w2 ⟨rfl, hb⟩; have HB2 := Aside0.mk (below_step HB1.out hb); clear hb hO)
    | (go_at_call 6; refine (hR _).mono ?_; rintro e w3 ⟨rfl, hb⟩; have HB3 := Aside0.mk (below_step HB2.out hb); clear hb hR)
    | (go_at_call_of 7 (Value.string A); refine (hK1 _).mono ?_; rintro e w4 ⟨rfl, hb⟩; have HB4 := Aside0.mk (below_step HB3.out hb); clear hb hK1)
    | (go_at_call_of 7 (Value.string B); refine (hK2 _).mono ?_; rintro e w5 ⟨rfl, hb⟩; have HB5 := Aside0.mk (below_step HB4.out hb); clear hb hK2)
    | (go_at_call 8; refine (hC _).mono ?_; rintro e w6 ⟨rfl, ⟨n6, rfl⟩⟩; clear hC))
  go_ret
  exact ⟨rfl, HB5.out.os, HB5.out.tape, HB5.out.output, HB5.out.size, HB5.out.block⟩

set_option maxRecDepth 100000 in
set_option maxHeartbeats 4000000 in
theorem walk_b (m : Int)  (w : World) (hm : w.cell? ⟨0, 0, none⟩ = some (.int .i64 m)) :
    Calls Tryd.prog 3 #[.int .i64 100003, .int .i64 7] w fun e w' => e = .returned (.bool true) ∧ Below w.heap.size w w' := by
  have hS := speaks_calls m w hm
  have hR := PA.coracleref10_Of.calls 3 100003 7 _ _ _ (h := ref_is 100003 7)
  have hC := PA.shape_Changes.calls 100003 7 _ (h := changes_is 100003 7)
  have hO : ∀ W : World, W.cell? ⟨0, 0, none⟩ = some (.int .i64 m) → _ := fun W hW => of_calls 100003 7 m W hW
  have hK1 := check_calls _ (forms_ok 100003 7).1
  have hK2 := check_calls _ (forms_ok 100003 7).2
  have HM := Aside0.mk hm
  clear hm
  generalize hA : (⟨(ofF 100003 7).1.toArray⟩ : ByteArray) = A at hR hO hK1
  generalize hB : (⟨(ofF 100003 7).2.1.toArray⟩ : ByteArray) = B at hR hO hK2
  generalize (ofF 100003 7).2.2 = ok at hR hO
  clear hA hB
  have hch : changes 100003 7 = true := by unfold changes; rfl
  rw [hch] at hC
  clear hch
  go_enter Tryd.func3, Tryd.ntmps3
  go_wp2_with (first
    | (go_at_call 4; refine hS.mono ?_; rintro e w1 ⟨rfl, hb⟩; have HB1 := Aside0.mk hb; clear hb hS)
    | (go_at_call 5; refine (hO _ (Lib.Below.cellOf HB1.out HM.out (Nat.le_refl _))).mono ?_; rintro e w2 ⟨rfl, hb⟩; have HB2 := Aside0.mk (below_step HB1.out hb); clear hb hO)
    | (go_at_call 6; refine (hR _).mono ?_; rintro e w3 ⟨rfl, hb⟩; have HB3 := Aside0.mk (below_step HB2.out hb); clear hb hR)
    | (go_at_call_of 7 (Value.string A); refine (hK1 _).mono ?_; rintro e w4 ⟨rfl, hb⟩; have HB4 := Aside0.mk (below_step HB3.out hb); clear hb hK1)
    | (go_at_call_of 7 (Value.string B); refine (hK2 _).mono ?_; rintro e w5 ⟨rfl, hb⟩; have HB5 := Aside0.mk (below_step HB4.out hb); clear hb hK2)
    | (go_at_call 8; refine (hC _).mono ?_; rintro e w6 ⟨rfl, ⟨n6, rfl⟩⟩; clear hC))
  go_ret
  exact ⟨rfl, HB5.out.os, HB5.out.tape, HB5.out.output, HB5.out.size, HB5.out.block⟩

set_option maxRecDepth 100000 in
set_option maxHeartbeats 4000000 in
theorem walk_c (p m : Int) (k0 : ¬ p = 2) (k1 : ¬ p = 7) (k2 : 8 ≤ p) (k3 : p ≤ 15) (w : World) (hm : w.cell? ⟨0, 0, none⟩ = some (.int .i64 m)) :
    Calls Tryd.prog 3 #[.int .i64 100003, .int .i64 p] w fun e w' => e = .returned (.bool true) ∧ Below w.heap.size w w' := by
  have hS := speaks_calls m w hm
  have hR := PA.coracleref10_Of.calls 3 100003 p _ _ _ (h := ref_is 100003 p)
  have hC := PA.shape_Changes.calls 100003 p _ (h := changes_is 100003 p)
  have hO : ∀ W : World, W.cell? ⟨0, 0, none⟩ = some (.int .i64 m) → _ := fun W hW => of_calls 100003 p m W hW
  have hK1 := check_calls _ (forms_ok 100003 p).1
  have hK2 := check_calls _ (forms_ok 100003 p).2
  have HM := Aside0.mk hm
  clear hm
  generalize hA : (⟨(ofF 100003 p).1.toArray⟩ : ByteArray) = A at hR hO hK1
  generalize hB : (⟨(ofF 100003 p).2.1.toArray⟩ : ByteArray) = B at hR hO hK2
  generalize (ofF 100003 p).2.2 = ok at hR hO
  clear hA hB
  have f0 : (p == 2) = false := beq_eq_false_iff_ne.2 k0
  have f1 : (p == 7) = false := beq_eq_false_iff_ne.2 k1
  have hch : changes 100003 p = true := by unfold changes; simp [f0, f1, k2, k3]
  rw [hch] at hC
  clear hch
  go_enter Tryd.func3, Tryd.ntmps3
  go_wp2_with (first
    | (go_at_call 4; refine hS.mono ?_; rintro e w1 ⟨rfl, hb⟩; have HB1 := Aside0.mk hb; clear hb hS)
    | (go_at_call 5; refine (hO _ (Lib.Below.cellOf HB1.out HM.out (Nat.le_refl _))).mono ?_; rintro e w2 ⟨rfl, hb⟩; have HB2 := Aside0.mk (below_step HB1.out hb); clear hb hO)
    | (go_at_call 6; refine (hR _).mono ?_; rintro e w3 ⟨rfl, hb⟩; have HB3 := Aside0.mk (below_step HB2.out hb); clear hb hR)
    | (go_at_call_of 7 (Value.string A); refine (hK1 _).mono ?_; rintro e w4 ⟨rfl, hb⟩; have HB4 := Aside0.mk (below_step HB3.out hb); clear hb hK1)
    | (go_at_call_of 7 (Value.string B); refine (hK2 _).mono ?_; rintro e w5 ⟨rfl, hb⟩; have HB5 := Aside0.mk (below_step HB4.out hb); clear hb hK2)
    | (go_at_call 8; refine (hC _).mono ?_; rintro e w6 ⟨rfl, ⟨n6, rfl⟩⟩; clear hC))
  go_ret
  exact ⟨rfl, HB5.out.os, HB5.out.tape, HB5.out.output, HB5.out.size, HB5.out.block⟩

set_option maxRecDepth 100000 in
set_option maxHeartbeats 4000000 in
theorem walk_d (p m : Int) (k0 : ¬ p = 2) (k1 : ¬ p = 7) (k2 : 8 ≤ p) (k3 : ¬ p ≤ 15) (w : World) (hm : w.cell? ⟨0, 0, none⟩ = some (.int .i64 m)) :
    Calls Tryd.prog 3 #[.int .i64 100003, .int .i64 p] w fun e w' => e = .returned (.bool true) ∧ Below w.heap.size w w' := by
  have hS := speaks_calls m w hm
  have hR := PA.coracleref10_Of.calls 3 100003 p _ _ _ (h := ref_is 100003 p)
  have hC := PA.shape_Changes.calls 100003 p _ (h := changes_is 100003 p)
  have hO : ∀ W : World, W.cell? ⟨0, 0, none⟩ = some (.int .i64 m) → _ := fun W hW => of_calls 100003 p m W hW
  have hK1 := check_calls _ (forms_ok 100003 p).1
  have hK2 := check_calls _ (forms_ok 100003 p).2
  have HM := Aside0.mk hm
  clear hm
  generalize hA : (⟨(ofF 100003 p).1.toArray⟩ : ByteArray) = A at hR hO hK1
  generalize hB : (⟨(ofF 100003 p).2.1.toArray⟩ : ByteArray) = B at hR hO hK2
  generalize (ofF 100003 p).2.2 = ok at hR hO
  clear hA hB
  have f0 : (p == 2) = false := beq_eq_false_iff_ne.2 k0
  have f1 : (p == 7) = false := beq_eq_false_iff_ne.2 k1
  have g3 : decide (p ≤ 15) = false := decide_eq_false k3
  have hch : changes 100003 p = false := by unfold changes; simp [f0, f1, k2, k3]
  rw [hch] at hC
  clear hch
  go_enter Tryd.func3, Tryd.ntmps3
  go_wp2_with (first
    | (go_at_call 4; refine hS.mono ?_; rintro e w1 ⟨rfl, hb⟩; have HB1 := Aside0.mk hb; clear hb hS)
    | (go_at_call 5; refine (hO _ (Lib.Below.cellOf HB1.out HM.out (Nat.le_refl _))).mono ?_; rintro e w2 ⟨rfl, hb⟩; have HB2 := Aside0.mk (below_step HB1.out hb); clear hb hO)
    | (go_at_call 6; refine (hR _).mono ?_; rintro e w3 ⟨rfl, hb⟩; have HB3 := Aside0.mk (below_step HB2.out hb); clear hb hR)
    | (go_at_call_of 7 (Value.string A); refine (hK1 _).mono ?_; rintro e w4 ⟨rfl, hb⟩; have HB4 := Aside0.mk (below_step HB3.out hb); clear hb hK1)
    | (go_at_call_of 7 (Value.string B); refine (hK2 _).mono ?_; rintro e w5 ⟨rfl, hb⟩; have HB5 := Aside0.mk (below_step HB4.out hb); clear hb hK2)
    | (go_at_call 8; refine (hC _).mono ?_; rintro e w6 ⟨rfl, ⟨n6, rfl⟩⟩; clear hC))
  go_ret
  exact ⟨rfl, HB5.out.os, HB5.out.tape, HB5.out.output, HB5.out.size, HB5.out.block⟩

set_option maxRecDepth 100000 in
set_option maxHeartbeats 4000000 in
theorem walk_e (p m : Int) (k0 : ¬ p = 2) (k1 : ¬ p = 7) (k2 : ¬ 8 ≤ p) (w : World) (hm : w.cell? ⟨0, 0, none⟩ = some (.int .i64 m)) :
    Calls Tryd.prog 3 #[.int .i64 100003, .int .i64 p] w fun e w' => e = .returned (.bool true) ∧ Below w.heap.size w w' := by
  have hS := speaks_calls m w hm
  have hR := PA.coracleref10_Of.calls 3 100003 p _ _ _ (h := ref_is 100003 p)
  have hC := PA.shape_Changes.calls 100003 p _ (h := changes_is 100003 p)
  have hO : ∀ W : World, W.cell? ⟨0, 0, none⟩ = some (.int .i64 m) → _ := fun W hW => of_calls 100003 p m W hW
  have hK1 := check_calls _ (forms_ok 100003 p).1
  have hK2 := check_calls _ (forms_ok 100003 p).2
  have HM := Aside0.mk hm
  clear hm
  generalize hA : (⟨(ofF 100003 p).1.toArray⟩ : ByteArray) = A at hR hO hK1
  generalize hB : (⟨(ofF 100003 p).2.1.toArray⟩ : ByteArray) = B at hR hO hK2
  generalize (ofF 100003 p).2.2 = ok at hR hO
  clear hA hB
  have f0 : (p == 2) = false := beq_eq_false_iff_ne.2 k0
  have f1 : (p == 7) = false := beq_eq_false_iff_ne.2 k1
  have hch : changes 100003 p = false := by unfold changes; simp [f0, f1, k2]
  rw [hch] at hC
  clear hch
  go_enter Tryd.func3, Tryd.ntmps3
  go_wp2_with (first
    | (go_at_call 4; refine hS.mono ?_; rintro e w1 ⟨rfl, hb⟩; have HB1 := Aside0.mk hb; clear hb hS)
    | (go_at_call 5; refine (hO _ (Lib.Below.cellOf HB1.out HM.out (Nat.le_refl _))).mono ?_; rintro e w2 ⟨rfl, hb⟩; have HB2 := Aside0.mk (below_step HB1.out hb); clear hb hO)
    | (go_at_call 6; refine (hR _).mono ?_; rintro e w3 ⟨rfl, hb⟩; have HB3 := Aside0.mk (below_step HB2.out hb); clear hb hR)
    | (go_at_call_of 7 (Value.string A); refine (hK1 _).mono ?_; rintro e w4 ⟨rfl, hb⟩; have HB4 := Aside0.mk (below_step HB3.out hb); clear hb hK1)
    | (go_at_call_of 7 (Value.string B); refine (hK2 _).mono ?_; rintro e w5 ⟨rfl, hb⟩; have HB5 := Aside0.mk (below_step HB4.out hb); clear hb hK2)
    | (go_at_call 8; refine (hC _).mono ?_; rintro e w6 ⟨rfl, ⟨n6, rfl⟩⟩; clear hC))
  go_ret
  exact ⟨rfl, HB5.out.os, HB5.out.tape, HB5.out.output, HB5.out.size, HB5.out.block⟩

set_option maxRecDepth 100000 in
set_option maxHeartbeats 4000000 in
theorem walk_f (m : Int)  (w : World) (hm : w.cell? ⟨0, 0, none⟩ = some (.int .i64 m)) :
    Calls Tryd.prog 3 #[.int .i64 100005, .int .i64 1] w fun e w' => e = .returned (.bool true) ∧ Below w.heap.size w w' := by
  have hS := speaks_calls m w hm
  have hR := PA.coracleref10_Of.calls 3 100005 1 _ _ _ (h := ref_is 100005 1)
  have hC := PA.shape_Changes.calls 100005 1 _ (h := changes_is 100005 1)
  have hO : ∀ W : World, W.cell? ⟨0, 0, none⟩ = some (.int .i64 m) → _ := fun W hW => of_calls 100005 1 m W hW
  have hK1 := check_calls _ (forms_ok 100005 1).1
  have hK2 := check_calls _ (forms_ok 100005 1).2
  have HM := Aside0.mk hm
  clear hm
  generalize hA : (⟨(ofF 100005 1).1.toArray⟩ : ByteArray) = A at hR hO hK1
  generalize hB : (⟨(ofF 100005 1).2.1.toArray⟩ : ByteArray) = B at hR hO hK2
  generalize (ofF 100005 1).2.2 = ok at hR hO
  clear hA hB
  have hch : changes 100005 1 = true := by unfold changes; rfl
  rw [hch] at hC
  clear hch
  go_enter Tryd.func3, Tryd.ntmps3
  go_wp2_with (first
    | (go_at_call 4; refine hS.mono ?_; rintro e w1 ⟨rfl, hb⟩; have HB1 := Aside0.mk hb; clear hb hS)
    | (go_at_call 5; refine (hO _ (Lib.Below.cellOf HB1.out HM.out (Nat.le_refl _))).mono ?_; rintro e w2 ⟨rfl, hb⟩; have HB2 := Aside0.mk (below_step HB1.out hb); clear hb hO)
    | (go_at_call 6; refine (hR _).mono ?_; rintro e w3 ⟨rfl, hb⟩; have HB3 := Aside0.mk (below_step HB2.out hb); clear hb hR)
    | (go_at_call_of 7 (Value.string A); refine (hK1 _).mono ?_; rintro e w4 ⟨rfl, hb⟩; have HB4 := Aside0.mk (below_step HB3.out hb); clear hb hK1)
    | (go_at_call_of 7 (Value.string B); refine (hK2 _).mono ?_; rintro e w5 ⟨rfl, hb⟩; have HB5 := Aside0.mk (below_step HB4.out hb); clear hb hK2)
    | (go_at_call 8; refine (hC _).mono ?_; rintro e w6 ⟨rfl, ⟨n6, rfl⟩⟩; clear hC))
  go_ret
  exact ⟨rfl, HB5.out.os, HB5.out.tape, HB5.out.output, HB5.out.size, HB5.out.block⟩

set_option maxRecDepth 100000 in
set_option maxHeartbeats 4000000 in
theorem walk_g (m : Int)  (w : World) (hm : w.cell? ⟨0, 0, none⟩ = some (.int .i64 m)) :
    Calls Tryd.prog 3 #[.int .i64 100005, .int .i64 3] w fun e w' => e = .returned (.bool true) ∧ Below w.heap.size w w' := by
  have hS := speaks_calls m w hm
  have hR := PA.coracleref10_Of.calls 3 100005 3 _ _ _ (h := ref_is 100005 3)
  have hC := PA.shape_Changes.calls 100005 3 _ (h := changes_is 100005 3)
  have hO : ∀ W : World, W.cell? ⟨0, 0, none⟩ = some (.int .i64 m) → _ := fun W hW => of_calls 100005 3 m W hW
  have hK1 := check_calls _ (forms_ok 100005 3).1
  have hK2 := check_calls _ (forms_ok 100005 3).2
  have HM := Aside0.mk hm
  clear hm
  generalize hA : (⟨(ofF 100005 3).1.toArray⟩ : ByteArray) = A at hR hO hK1
  generalize hB : (⟨(ofF 100005 3).2.1.toArray⟩ : ByteArray) = B at hR hO hK2
  generalize (ofF 100005 3).2.2 = ok at hR hO
  clear hA hB
  have hch : changes 100005 3 = true := by unfold changes; rfl
  rw [hch] at hC
  clear hch
  go_enter Tryd.func3, Tryd.ntmps3
  go_wp2_with (first
    | (go_at_call 4; refine hS.mono ?_; rintro e w1 ⟨rfl, hb⟩; have HB1 := Aside0.mk hb; clear hb hS)
    | (go_at_call 5; refine (hO _ (Lib.Below.cellOf HB1.out HM.out (Nat.le_refl _))).mono ?_; rintro e w2 ⟨rfl, hb⟩; have HB2 := Aside0.mk (below_step HB1.out hb); clear hb hO)
    | (go_at_call 6; refine (hR _).mono ?_; rintro e w3 ⟨rfl, hb⟩; have HB3 := Aside0.mk (below_step HB2.out hb); clear hb hR)
    | (go_at_call_of 7 (Value.string A); refine (hK1 _).mono ?_; rintro e w4 ⟨rfl, hb⟩; have HB4 := Aside0.mk (below_step HB3.out hb); clear hb hK1)
    | (go_at_call_of 7 (Value.string B); refine (hK2 _).mono ?_; rintro e w5 ⟨rfl, hb⟩; have HB5 := Aside0.mk (below_step HB4.out hb); clear hb hK2)
    | (go_at_call 8; refine (hC _).mono ?_; rintro e w6 ⟨rfl, ⟨n6, rfl⟩⟩; clear hC))
  go_ret
  exact ⟨rfl, HB5.out.os, HB5.out.tape, HB5.out.output, HB5.out.size, HB5.out.block⟩

set_option maxRecDepth 100000 in
set_option maxHeartbeats 4000000 in
theorem walk_h (m : Int)  (w : World) (hm : w.cell? ⟨0, 0, none⟩ = some (.int .i64 m)) :
    Calls Tryd.prog 3 #[.int .i64 100005, .int .i64 4] w fun e w' => e = .returned (.bool true) ∧ Below w.heap.size w w' := by
  have hS := speaks_calls m w hm
  have hR := PA.coracleref10_Of.calls 3 100005 4 _ _ _ (h := ref_is 100005 4)
  have hC := PA.shape_Changes.calls 100005 4 _ (h := changes_is 100005 4)
  have hO : ∀ W : World, W.cell? ⟨0, 0, none⟩ = some (.int .i64 m) → _ := fun W hW => of_calls 100005 4 m W hW
  have hK1 := check_calls _ (forms_ok 100005 4).1
  have hK2 := check_calls _ (forms_ok 100005 4).2
  have HM := Aside0.mk hm
  clear hm
  generalize hA : (⟨(ofF 100005 4).1.toArray⟩ : ByteArray) = A at hR hO hK1
  generalize hB : (⟨(ofF 100005 4).2.1.toArray⟩ : ByteArray) = B at hR hO hK2
  generalize (ofF 100005 4).2.2 = ok at hR hO
  clear hA hB
  have hch : changes 100005 4 = true := by unfold changes; rfl
  rw [hch] at hC
  clear hch
  go_enter Tryd.func3, Tryd.ntmps3
  go_wp2_with (first
    | (go_at_call 4; refine hS.mono ?_; rintro e w1 ⟨rfl, hb⟩; have HB1 := Aside0.mk hb; clear hb hS)
    | (go_at_call 5; refine (hO _ (Lib.Below.cellOf HB1.out HM.out (Nat.le_refl _))).mono ?_; rintro e w2 ⟨rfl, hb⟩; have HB2 := Aside0.mk (below_step HB1.out hb); clear hb hO)
    | (go_at_call 6; refine (hR _).mono ?_; rintro e w3 ⟨rfl, hb⟩; have HB3 := Aside0.mk (below_step HB2.out hb); clear hb hR)
    | (go_at_call_of 7 (Value.string A); refine (hK1 _).mono ?_; rintro e w4 ⟨rfl, hb⟩; have HB4 := Aside0.mk (below_step HB3.out hb); clear hb hK1)
    | (go_at_call_of 7 (Value.string B); refine (hK2 _).mono ?_; rintro e w5 ⟨rfl, hb⟩; have HB5 := Aside0.mk (below_step HB4.out hb); clear hb hK2)
    | (go_at_call 8; refine (hC _).mono ?_; rintro e w6 ⟨rfl, ⟨n6, rfl⟩⟩; clear hC))
  go_ret
  exact ⟨rfl, HB5.out.os, HB5.out.tape, HB5.out.output, HB5.out.size, HB5.out.block⟩

set_option maxRecDepth 100000 in
set_option maxHeartbeats 4000000 in
theorem walk_i (p m : Int) (k0 : ¬ p = 1) (k1 : ¬ p = 3) (k2 : ¬ p = 4) (w : World) (hm : w.cell? ⟨0, 0, none⟩ = some (.int .i64 m)) :
    Calls Tryd.prog 3 #[.int .i64 100005, .int .i64 p] w fun e w' => e = .returned (.bool true) ∧ Below w.heap.size w w' := by
  have hS := speaks_calls m w hm
  have hR := PA.coracleref10_Of.calls 3 100005 p _ _ _ (h := ref_is 100005 p)
  have hC := PA.shape_Changes.calls 100005 p _ (h := changes_is 100005 p)
  have hO : ∀ W : World, W.cell? ⟨0, 0, none⟩ = some (.int .i64 m) → _ := fun W hW => of_calls 100005 p m W hW
  have hK1 := check_calls _ (forms_ok 100005 p).1
  have hK2 := check_calls _ (forms_ok 100005 p).2
  have HM := Aside0.mk hm
  clear hm
  generalize hA : (⟨(ofF 100005 p).1.toArray⟩ : ByteArray) = A at hR hO hK1
  generalize hB : (⟨(ofF 100005 p).2.1.toArray⟩ : ByteArray) = B at hR hO hK2
  generalize (ofF 100005 p).2.2 = ok at hR hO
  clear hA hB
  have f0 : (p == 1) = false := beq_eq_false_iff_ne.2 k0
  have f1 : (p == 3) = false := beq_eq_false_iff_ne.2 k1
  have f2 : (p == 4) = false := beq_eq_false_iff_ne.2 k2
  have hch : changes 100005 p = false := by unfold changes; simp [f0, f1, f2]
  rw [hch] at hC
  clear hch
  go_enter Tryd.func3, Tryd.ntmps3
  go_wp2_with (first
    | (go_at_call 4; refine hS.mono ?_; rintro e w1 ⟨rfl, hb⟩; have HB1 := Aside0.mk hb; clear hb hS)
    | (go_at_call 5; refine (hO _ (Lib.Below.cellOf HB1.out HM.out (Nat.le_refl _))).mono ?_; rintro e w2 ⟨rfl, hb⟩; have HB2 := Aside0.mk (below_step HB1.out hb); clear hb hO)
    | (go_at_call 6; refine (hR _).mono ?_; rintro e w3 ⟨rfl, hb⟩; have HB3 := Aside0.mk (below_step HB2.out hb); clear hb hR)
    | (go_at_call_of 7 (Value.string A); refine (hK1 _).mono ?_; rintro e w4 ⟨rfl, hb⟩; have HB4 := Aside0.mk (below_step HB3.out hb); clear hb hK1)
    | (go_at_call_of 7 (Value.string B); refine (hK2 _).mono ?_; rintro e w5 ⟨rfl, hb⟩; have HB5 := Aside0.mk (below_step HB4.out hb); clear hb hK2)
    | (go_at_call 8; refine (hC _).mono ?_; rintro e w6 ⟨rfl, ⟨n6, rfl⟩⟩; clear hC))
  go_ret
  exact ⟨rfl, HB5.out.os, HB5.out.tape, HB5.out.output, HB5.out.size, HB5.out.block⟩

set_option maxRecDepth 100000 in
set_option maxHeartbeats 4000000 in
theorem walk_j (p g m : Int) (k0 : ¬ g = 100003) (k1 : ¬ g = 100005) (w : World) (hm : w.cell? ⟨0, 0, none⟩ = some (.int .i64 m)) :
    Calls Tryd.prog 3 #[.int .i64 g, .int .i64 p] w fun e w' => e = .returned (.bool true) ∧ Below w.heap.size w w' := by
  have hS := speaks_calls m w hm
  have hR := PA.coracleref10_Of.calls 3 g p _ _ _ (h := ref_is g p)
  have hC := PA.shape_Changes.calls g p _ (h := changes_is g p)
  have hO : ∀ W : World, W.cell? ⟨0, 0, none⟩ = some (.int .i64 m) → _ := fun W hW => of_calls g p m W hW
  have hK1 := check_calls _ (forms_ok g p).1
  have hK2 := check_calls _ (forms_ok g p).2
  have HM := Aside0.mk hm
  clear hm
  generalize hA : (⟨(ofF g p).1.toArray⟩ : ByteArray) = A at hR hO hK1
  generalize hB : (⟨(ofF g p).2.1.toArray⟩ : ByteArray) = B at hR hO hK2
  generalize (ofF g p).2.2 = ok at hR hO
  clear hA hB
  have f0 : (g == 100003) = false := beq_eq_false_iff_ne.2 k0
  have f1 : (g == 100005) = false := beq_eq_false_iff_ne.2 k1
  have hch : changes g p = false := by unfold changes; simp [f0, f1]
  rw [hch] at hC
  clear hch
  go_enter Tryd.func3, Tryd.ntmps3
  go_wp2_with (first
    | (go_at_call 4; refine hS.mono ?_; rintro e w1 ⟨rfl, hb⟩; have HB1 := Aside0.mk hb; clear hb hS)
    | (go_at_call 5; refine (hO _ (Lib.Below.cellOf HB1.out HM.out (Nat.le_refl _))).mono ?_; rintro e w2 ⟨rfl, hb⟩; have HB2 := Aside0.mk (below_step HB1.out hb); clear hb hO)
    | (go_at_call 6; refine (hR _).mono ?_; rintro e w3 ⟨rfl, hb⟩; have HB3 := Aside0.mk (below_step HB2.out hb); clear hb hR)
    | (go_at_call_of 7 (Value.string A); refine (hK1 _).mono ?_; rintro e w4 ⟨rfl, hb⟩; have HB4 := Aside0.mk (below_step HB3.out hb); clear hb hK1)
    | (go_at_call_of 7 (Value.string B); refine (hK2 _).mono ?_; rintro e w5 ⟨rfl, hb⟩; have HB5 := Aside0.mk (below_step HB4.out hb); clear hb hK2)
    | (go_at_call 8; refine (hC _).mono ?_; rintro e w6 ⟨rfl, ⟨n6, rfl⟩⟩; clear hC))
  go_ret
  exact ⟨rfl, HB5.out.os, HB5.out.tape, HB5.out.output, HB5.out.size, HB5.out.block⟩

theorem walkForms (g p m : Int) (w : World) (hm : w.cell? ⟨0, 0, none⟩ = some (.int .i64 m)) :
    Calls Tryd.prog 3 #[.int .i64 g, .int .i64 p] w fun e w' => e = .returned (.bool true) ∧ Below w.heap.size w w' := by
  by_cases h3 : g = 100003
  · subst h3
    by_cases h2 : p = 2
    · subst h2; exact walk_a m w hm
    · by_cases h7 : p = 7
      · subst h7; exact walk_b m w hm
      · by_cases h8 : 8 ≤ p
        · by_cases h15 : p ≤ 15
          · exact walk_c p m h2 h7 h8 h15 w hm
          · exact walk_d p m h2 h7 h8 h15 w hm
        · exact walk_e p m h2 h7 h8 w hm
  · by_cases h5 : g = 100005
    · subst h5
      by_cases h1 : p = 1
      · subst h1; exact walk_f m w hm
      · by_cases h3' : p = 3
        · subst h3'; exact walk_g m w hm
        · by_cases h4 : p = 4
          · subst h4; exact walk_h m w hm
          · exact walk_i p m h1 h3' h4 w hm
    · exact walk_j p g m h3 h5 w hm
end Go.Proofs.YtgfljlbecafipaaDoor.Mo
