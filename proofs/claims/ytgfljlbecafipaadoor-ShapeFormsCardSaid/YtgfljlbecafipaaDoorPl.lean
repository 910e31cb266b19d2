/- The plain law of ShapeForms: the written forms are the document's; each of them is a form. -/
import Derived.Test.YtgfljlbecafipaaDoorOx
import Derived.Test.YtgfljlbecafipaaDoorPs
import Derived.Test.YtgfljlbecafipaaDoorPAx67
import Derived.Test.YtgfljlbecafipaaDoorPAx72
namespace Go.Proofs.YtgfljlbecafipaaDoor.Mo
open Go.RowKit Go.Lib Go.Proofs.YtgfljlbecafipaaDoorW.PrintWords Go.Proofs.YtgfljlbecafipaaDoorW.PrintLast Go.Proofs.YtgfljlbecafipaaDoorW.PrintMore
set_option linter.unusedVariables false
set_option linter.unusedSimpArgs false

def toL (r : Option (ByteArray × ByteArray × Bool)) : Option (List UInt8 × List UInt8 × Bool) := r.map fun x => (x.1.data.toList, x.2.1.data.toList, x.2.2)
theorem toL_back {r : Option (ByteArray × ByteArray × Bool)} {x : List UInt8 × List UInt8 × Bool} (h : toL r = some x) : r = some (⟨x.1.toArray⟩, ⟨x.2.1.toArray⟩, x.2.2) := by
  obtain ⟨y, rfl, hy⟩ := Option.map_eq_some_iff.1 h
  subst hy
  rfl

theorem ref_nfs (n : Nat) (h1 : 1 ≤ n) (h : n < 22) : toL (PA.coracleref10_Of.f 3 100003 n) = some (ofF 100003 n) := by
  have hb := (List.all_eq_true.1 (show ((List.range 22).all fun n => decide (n = 0) || decide (toL (PA.coracleref10_Of.f 3 100003 n) = some (ofF 100003 n))) = true by kernel_rfl)) n (List.mem_range.2 h)
  have h0 : decide (n = 0) = false := decide_eq_false (by omega)
  rw [h0, Bool.false_or] at hb
  exact of_decide_eq_true hb
theorem ref_mount (n : Nat) (h1 : 1 ≤ n) (h : n < 6) : toL (PA.coracleref10_Of.f 3 100005 n) = some (ofF 100005 n) := by
  have hb := (List.all_eq_true.1 (show ((List.range 6).all fun n => decide (n = 0) || decide (toL (PA.coracleref10_Of.f 3 100005 n) = some (ofF 100005 n))) = true by kernel_rfl)) n (List.mem_range.2 h)
  have h0 : decide (n = 0) = false := decide_eq_false (by omega)
  rw [h0, Bool.false_or] at hb
  exact of_decide_eq_true hb

theorem wr_nil : Rb.wr [] = [] := by kernel_rfl
theorem of_out (g p : Int) (h3 : ¬ (g = 100003 ∧ 1 ≤ p ∧ p < 22)) (h5 : ¬ (g = 100005 ∧ 1 ≤ p ∧ p < 6)) : ofF g p = ([], [], decide (p = 0 ∧ (g = 100003 ∨ g = 100005))) := by
  rw [ofF, rawOf, if_neg h3, if_neg h5]
  show (Rb.wr [], Rb.wr [], _) = _
  rw [wr_nil]

theorem ref_is (g p : Int) : PA.coracleref10_Of.f 3 g p = some (⟨(ofF g p).1.toArray⟩, ⟨(ofF g p).2.1.toArray⟩, (ofF g p).2.2) := by
  apply toL_back
  by_cases h3 : g = 100003 ∧ 1 ≤ p ∧ p < 22
  · obtain ⟨rfl, h1, h2⟩ := h3
    obtain ⟨n, rfl⟩ : ∃ n : Nat, p = n := ⟨p.toNat, by omega⟩
    exact ref_nfs n (by omega) (by omega)
  · by_cases h5 : g = 100005 ∧ 1 ≤ p ∧ p < 6
    · obtain ⟨rfl, h1, h2⟩ := h5
      obtain ⟨n, rfl⟩ : ∃ n : Nat, p = n := ⟨p.toNat, by omega⟩
      exact ref_mount n (by omega) (by omega)
    · rw [of_out g p h3 h5]
      have e : PA.coracleref10_Of.f 3 g p = PA.coracleref10_Of.j0 3 g p false := by
        unfold PA.coracleref10_Of.f
        split
        · split
          · rw [decide_eq_false (by omega)]
          · rfl
        · rfl
      rw [e, PA.coracleref10_Of.j0, if_neg (by decide)]
      by_cases hm : g = 100005
      · subst hm
        rw [if_pos rfl]
        by_cases hp1 : p ≥ 1
        · rw [if_pos hp1, if_neg (by omega), if_neg (by omega), decide_eq_false (by omega)]; rfl
        · rw [if_neg hp1]
          by_cases hp0 : p = 0
          · subst hp0; rfl
          · rw [if_neg hp0, decide_eq_false (by omega)]; rfl
      · rw [if_neg hm]
        by_cases hp0 : p = 0
        · subst hp0
          rw [if_pos rfl]
          by_cases hn : g = 100003
          · subst hn; rfl
          · rw [if_neg hn, decide_eq_false (by omega)]
            have : (g == 100005) = false := beq_eq_false_iff_ne.2 hm
            rw [this]; rfl
        · rw [if_neg hp0, decide_eq_false (by omega)]; rfl

def okForm (l : List UInt8) : Bool := match PA.schema_parse.f 200 ⟨l.toArray⟩ with | some (_, r) => r == 0 | none => false
theorem okForm_is {l : List UInt8} (h : okForm l = true) : ∃ s, PA.schema_parse.f 200 ⟨l.toArray⟩ = some (s, 0) := by
  unfold okForm at h
  split at h
  · rename_i s r hr
    have e : r = 0 := by simpa using h
    subst e
    exact ⟨s, hr⟩
  · cases h

theorem forms_ok (g p : Int) : okForm (ofF g p).1 = true ∧ okForm (ofF g p).2.1 = true := by
  by_cases h3 : g = 100003 ∧ 1 ≤ p ∧ p < 22
  · obtain ⟨rfl, h1, h2⟩ := h3
    obtain ⟨n, rfl⟩ : ∃ n : Nat, p = n := ⟨p.toNat, by omega⟩
    have hb := (List.all_eq_true.1 (show ((List.range 22).all fun n => okForm (ofF 100003 n).1 && okForm (ofF 100003 n).2.1) = true by kernel_rfl)) n (List.mem_range.2 (by omega))
    exact Bool.and_eq_true_iff.1 hb
  · by_cases h5 : g = 100005 ∧ 1 ≤ p ∧ p < 6
    · obtain ⟨rfl, h1, h2⟩ := h5
      obtain ⟨n, rfl⟩ : ∃ n : Nat, p = n := ⟨p.toNat, by omega⟩
      have hb := (List.all_eq_true.1 (show ((List.range 6).all fun n => okForm (ofF 100005 n).1 && okForm (ofF 100005 n).2.1) = true by kernel_rfl)) n (List.mem_range.2 (by omega))
      exact Bool.and_eq_true_iff.1 hb
    · rw [of_out g p h3 h5]
      have e : okForm [] = true := by kernel_rfl
      exact ⟨e, e⟩
end Go.Proofs.YtgfljlbecafipaaDoor.Mo
