/- shape.written: what it makes of a short string. -/
import Derived.Test.YtgfljlbecafipaaDoorNr
import Derived.Test.YtgfljlbecafipaaDoorSh
import Derived.Test.YtgfljlbecafipaaDoorPAx3
namespace Go.Proofs.YtgfljlbecafipaaDoor.Rb
open Go.RowKit Go.Lib Go.Proofs.YtgfljlbecafipaaDoorW.PrintWords Go.Proofs.YtgfljlbecafipaaDoorW.PrintLast Go.Proofs.YtgfljlbecafipaaDoorW.PrintMore
set_option linter.unusedVariables false
set_option linter.unusedSimpArgs false

def bA : ByteArray := ⟨#[117, 117, 117, 117, 117, 113, 113, 117, 117, 113, 113, 117, 117, 117, 117, 117, 117]⟩
def bS : ByteArray := ⟨#[63, 40, 117, 41, 63, 40, 117, 41, 63, 40, 117, 41, 63, 40, 113, 41, 60, 48, 58, 44, 49, 58, 44, 50, 58, 117, 117, 62, 60, 48, 58, 44, 49, 58, 44, 50, 58, 117, 117, 62]⟩
def bW : ByteArray := ⟨#[63, 40, 113, 117, 117, 117, 117, 41, 80]⟩
def bP : ByteArray := (⟨#[63, 40]⟩ ++ bA) ++ ⟨#[41]⟩
def pairs : List (UInt8 × ByteArray) := [(80, bP), (72, ⟨#[111, 54, 52]⟩), (78, ⟨#[111, 50, 53, 53]⟩), (84, ⟨#[111, 49, 48, 50, 52]⟩), (68, ⟨#[111, 53, 49, 50]⟩), (65, bA), (83, bS)]
def vsOf : List (UInt8 × ByteArray) → List Value
  | [] => []
  | p :: r => .string ⟨#[p.1]⟩ :: .string p.2 :: vsOf r

theorem vsOf_at : ∀ (L : List (UInt8 × ByteArray)) (i : Nat) (h : i < L.length), (vsOf L)[2 * i]? = some (.string ⟨#[(L[i]'h).1]⟩) ∧ (vsOf L)[2 * i + 1]? = some (.string (L[i]'h).2)
  | [], i, h => by simp at h
  | p :: r, 0, h => ⟨rfl, rfl⟩
  | p :: r, i + 1, h => by
    have ih := vsOf_at r i (by simpa using h)
    have e1 : 2 * (i + 1) = 2 * i + 1 + 1 := by omega
    rw [e1]
    exact ih

/-- what is written for a string -/
def wr1 (l : List UInt8) : List UInt8 := Lib.replaceAll l [87] bW.data.toList
def wr (l : List UInt8) : List UInt8 := repl (tabOf pairs) (wr1 l)

theorem pairs_one : allOne pairs = false := by kernel_rfl
theorem pairs_nodup : (pairs.map (·.1)).Nodup := by decide
theorem pairs_small : ∀ p ∈ pairs, p.2.size ≤ 1000 := by
  intro p hp
  exact of_decide_eq_true ((List.all_eq_true.1 (show (pairs.all fun p => decide (p.2.size ≤ 1000)) = true by kernel_rfl)) p hp)
theorem form_is : PA.attr_Form.f = some (bA, bS) := rfl

set_option maxRecDepth 100000 in
set_option maxHeartbeats 4000000 in
theorem written_calls (s : ByteArray) (m : Int) (w : World) (hm : w.cell? ⟨0, 0, none⟩ = some (.int .i64 m)) (hs : s.size ≤ 1000) (hl : (wr1 s.data.toList).length < 56) :
    Calls Tryd.prog 11 #[.string s] w fun e w' => e = .returned (.string ⟨(wr s.data.toList).toArray⟩) ∧ Below w.heap.size w w' := by
  have hF := PA.attr_Form.calls bA bS w form_is
  have hcnt := Lib.countB_mul_le ⟨#[87]⟩ (by decide) s.size s (Nat.le_refl _)
  have hR : ∀ W : World, W.cell? ⟨0, 0, none⟩ = some (.int .i64 m) → Calls Tryd.prog 15 #[.string s, .string ⟨#[87]⟩, .string bW] W fun e w' => e = .returned (.string ⟨(wr1 s.data.toList).toArray⟩) ∧ Below W.heap.size W w' := fun W hW => Tryd.strings_ReplaceAll s ⟨#[87]⟩ bW m W (by omega) hW (by decide) (by
    have e1 : (⟨#[87]⟩ : ByteArray).size = 1 := rfl
    have e2 : bW.size = 9 := rfl
    rw [e1] at hcnt
    rw [e2]
    omega)
  have HL := Aside0.mk hl
  have HM := Aside0.mk hm
  obtain ⟨t, ht⟩ : ∃ t : ByteArray, t = ⟨(wr1 s.data.toList).toArray⟩ := ⟨_, rfl⟩
  rw [← ht] at hR
  have HT := Aside0.mk ht
  clear hcnt hl hm ht
  go_enter Tryd.func11, Tryd.ntmps11
  go_wp2_with (first
    | (go_at_call 14; refine hF.mono ?_; rintro e w0 ⟨rfl, hw0⟩; have HW0 : Aside0 (Below w.heap.size w w0) := ⟨by obtain ⟨m0, rfl⟩ := hw0; exact ⟨rfl, rfl, rfl, Nat.le_refl _, fun _ _ => rfl⟩⟩; clear hF hw0)
    | (go_at_call 15; refine (hR _ (Lib.Below.cellOf HW0.out HM.out (Nat.le_refl _))).mono ?_; rintro e w1 ⟨rfl, hw1⟩; have HW1 := Aside0.mk (below_step HW0.out hw1); clear hR hw1)
    | ((with_reducible refine gate_dst (N := 16) rfl ?_); refine Lb.alloc_event ?hg (v := fun g => .slice (some ⟨g, 0, none⟩) 14 14) (cs := (vsOf pairs).toArray) (t := 9) (fr := (0, 0)) ?hr ?_; (case hg => rfl); (case hr => first | (go_simp; done) | (go_simp; rfl)); intro ab hab w2 hx2 hb2; have HX2 := Aside0.mk hx2; have HW2 := Aside0.mk (below_step HW1.out hb2); clear hx2 hb2 hab)
    | (go_at_call 16; refine (newReplacer_calls ab 14 14 (vsOf pairs) _ rfl (by decide) (by decide) (by decide) (fun j v hj => (blk_cell HX2.out j).trans (by rw [List.getElem?_toArray]; exact hj))).mono ?_; rintro e w3 ⟨R, ob, cap, rfl, hR, hc, hb, hge, hne⟩; have HR := Aside0.mk hR; have HC := Aside0.mk hc; have HW3 := Aside0.mk (below_step HW2.out hb); have HGE := Aside0.mk (Nat.le_trans HW2.out.size hge); have HNE := Aside0.mk hne; clear hR hc hb hge hne)
    | (go_at_call 17; refine (replacer_calls R ob 7 cap pairs t _ ⟨HR.out, fun i hi => ⟨HC.out _ _ (vsOf_at pairs i hi).1, HC.out _ _ (vsOf_at pairs i hi).2⟩, rfl⟩ HNE.out (by decide) (by decide) pairs_one pairs_nodup pairs_small (by rw [HT.out]; have := HL.out; show (wr1 s.data.toList).toArray.size < 56; simpa using this)).mono ?_; rintro e w4 ⟨rfl, hg⟩; have HG := Aside0.mk hg; clear hg))
  go_ret
  refine ⟨?_, Lb.grown_below HW3.out HG.out HW3.out.size HGE.out⟩
  rw [HT.out]
  rfl
end Go.Proofs.YtgfljlbecafipaaDoor.Rb
