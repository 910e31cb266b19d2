-- printed by a program of this session (wip/tools), over the translation
import Derived.Test.YtgfljlbecafipaaDoorPAx0
namespace Go.Proofs.YtgfljlbecafipaaDoor.PA
open Go.RowKit Go.Proofs.YtgfljlbecafipaaDoorW.PrintWords Go.Proofs.YtgfljlbecafipaaDoorW.PrintLast Go.Proofs.YtgfljlbecafipaaDoorW.PrintMore
attribute [local go_sem] max2_int min2_int max_two min_two max_three min_three max_four min_four   -- for this text's walks alone
set_option linter.unusedVariables false
set_option linter.unusedSimpArgs false

/-! ### coracleref10_nfs: function 12 -/
def coracleref10_nfs.j0 : Nat → Int → Bool → Option (ByteArray × ByteArray × ByteArray)
  | 0, _, _ => none
  | k + 1, x5, x28 => if x28 = true then (some ((⟨#[111, 54, 52, 111, 50, 53, 53]⟩ : ByteArray), (⟨#[63, 40, 113, 117, 117, 117, 117, 41, 63, 40, 117, 117, 117, 117, 117, 113, 113, 117, 117, 113, 113, 117, 117, 117, 117, 117, 117, 41]⟩ : ByteArray), (⟨#[63, 40, 113, 117, 117, 117, 117, 41, 63, 40, 117, 117, 117, 117, 117, 113, 113, 117, 117, 113, 113, 117, 117, 117, 117, 117, 117, 41]⟩ : ByteArray))) else (if x5 = 14 then (some ((⟨#[111, 54, 52, 111, 50, 53, 53, 111, 54, 52, 111, 50, 53, 53]⟩ : ByteArray), (⟨#[63, 40, 113, 117, 117, 117, 117, 41, 63, 40, 117, 117, 117, 117, 117, 113, 113, 117, 117, 113, 113, 117, 117, 117, 117, 117, 117, 41, 63, 40, 113, 117, 117, 117, 117, 41, 63, 40, 117, 117, 117, 117, 117, 113, 113, 117, 117, 113, 113, 117, 117, 117, 117, 117, 117, 41]⟩ : ByteArray), (⟨#[63, 40, 113, 117, 117, 117, 117, 41, 63, 40, 117, 117, 117, 117, 117, 113, 113, 117, 117, 113, 113, 117, 117, 117, 117, 117, 117, 41, 63, 40, 113, 117, 117, 117, 117, 41, 63, 40, 117, 117, 117, 117, 117, 113, 113, 117, 117, 113, 113, 117, 117, 117, 117, 117, 117, 41]⟩ : ByteArray))) else (if x5 = 15 then (some ((⟨#[111, 54, 52, 111, 54, 52, 111, 50, 53, 53]⟩ : ByteArray), (⟨#[63, 40, 117, 117, 117, 117, 117, 113, 113, 117, 117, 113, 113, 117, 117, 117, 117, 117, 117, 41, 63, 40, 113, 117, 117, 117, 117, 41, 63, 40, 117, 117, 117, 117, 117, 113, 113, 117, 117, 113, 113, 117, 117, 117, 117, 117, 117, 41]⟩ : ByteArray), (⟨#[63, 40, 117, 117, 117, 117, 117, 113, 113, 117, 117, 113, 113, 117, 117, 117, 117, 117, 117, 41, 63, 40, 113, 117, 117, 117, 117, 41, 63, 40, 117, 117, 117, 117, 117, 113, 113, 117, 117, 113, 113, 117, 117, 117, 117, 117, 117, 41]⟩ : ByteArray))) else (if x5 = 16 then (some ((⟨#[111, 54, 52, 113, 102, 56, 117]⟩ : ByteArray), (⟨#[63, 40, 117, 117, 117, 117, 117, 113, 113, 117, 117, 113, 113, 117, 117, 117, 117, 117, 117, 41, 102, 56, 42, 40, 113, 111, 50, 53, 53, 113, 41, 98]⟩ : ByteArray), (⟨#[63, 40, 117, 117, 117, 117, 117, 113, 113, 117, 117, 113, 113, 117, 117, 117, 117, 117, 117, 41]⟩ : ByteArray))) else (if x5 = 17 then (some ((⟨#[111, 54, 52, 113, 102, 56, 117, 117]⟩ : ByteArray), (⟨#[63, 40, 117, 117, 117, 117, 117, 113, 113, 117, 117, 113, 113, 117, 117, 117, 117, 117, 117, 41, 102, 56, 42, 40, 113, 111, 50, 53, 53, 113, 63, 40, 117, 117, 117, 117, 117, 113, 113, 117, 117, 113, 113, 117, 117, 117, 117, 117, 117, 41, 63, 40, 111, 54, 52, 41, 41, 98]⟩ : ByteArray), (⟨#[63, 40, 117, 117, 117, 117, 117, 113, 113, 117, 117, 113, 113, 117, 117, 117, 117, 117, 117, 41]⟩ : ByteArray))) else (if x5 = 18 then (some ((⟨#[111, 54, 52]⟩ : ByteArray), (⟨#[63, 40, 117, 117, 117, 117, 117, 113, 113, 117, 117, 113, 113, 117, 117, 117, 117, 117, 117, 41, 113, 113, 113, 113, 113, 113, 117]⟩ : ByteArray), (⟨#[63, 40, 117, 117, 117, 117, 117, 113, 113, 117, 117, 113, 113, 117, 117, 117, 117, 117, 117, 41]⟩ : ByteArray))) else (if x5 = 19 then (some ((⟨#[111, 54, 52]⟩ : ByteArray), (⟨#[63, 40, 117, 117, 117, 117, 117, 113, 113, 117, 117, 113, 113, 117, 117, 117, 117, 117, 117, 41, 117, 117, 117, 117, 117, 117, 117, 113, 117, 117, 117]⟩ : ByteArray), (⟨#[63, 40, 117, 117, 117, 117, 117, 113, 113, 117, 117, 113, 113, 117, 117, 117, 117, 117, 117, 41]⟩ : ByteArray))) else (if x5 = 20 then (some ((⟨#[111, 54, 52]⟩ : ByteArray), (⟨#[63, 40, 117, 117, 117, 117, 117, 113, 113, 117, 117, 113, 113, 117, 117, 117, 117, 117, 117, 41, 117, 117, 98, 98, 98, 98]⟩ : ByteArray), (⟨#[63, 40, 117, 117, 117, 117, 117, 113, 113, 117, 117, 113, 113, 117, 117, 117, 117, 117, 117, 41]⟩ : ByteArray))) else (some ((⟨#[111, 54, 52, 113, 117]⟩ : ByteArray), (⟨#[63, 40, 113, 117, 117, 117, 117, 41, 63, 40, 117, 117, 117, 117, 117, 113, 113, 117, 117, 113, 113, 117, 117, 117, 117, 117, 117, 41, 102, 56]⟩ : ByteArray), (⟨#[63, 40, 113, 117, 117, 117, 117, 41, 63, 40, 117, 117, 117, 117, 117, 113, 113, 117, 117, 113, 113, 117, 117, 117, 117, 117, 117, 41]⟩ : ByteArray))))))))))
def coracleref10_nfs.f (k : Nat) (a0 : Int) : Option (ByteArray × ByteArray × ByteArray) := if a0 = 1 then (some ((⟨#[111, 54, 52]⟩ : ByteArray), (⟨#[117, 117, 117, 117, 117, 113, 113, 117, 117, 113, 113, 117, 117, 117, 117, 117, 117]⟩ : ByteArray), (⟨#[]⟩ : ByteArray))) else (if a0 = 2 then (some ((⟨#[111, 54, 52, 63, 40, 117, 41, 63, 40, 117, 41, 63, 40, 117, 41, 63, 40, 113, 41, 60, 48, 58, 44, 49, 58, 44, 50, 58, 117, 117, 62, 60, 48, 58, 44, 49, 58, 44, 50, 58, 117, 117, 62, 63, 40, 117, 117, 41]⟩ : ByteArray), (⟨#[63, 40, 113, 117, 117, 117, 117, 41, 63, 40, 117, 117, 117, 117, 117, 113, 113, 117, 117, 113, 113, 117, 117, 117, 117, 117, 117, 41]⟩ : ByteArray), (⟨#[63, 40, 113, 117, 117, 117, 117, 41, 63, 40, 117, 117, 117, 117, 117, 113, 113, 117, 117, 113, 113, 117, 117, 117, 117, 117, 117, 41]⟩ : ByteArray))) else (if a0 = 3 then (some ((⟨#[111, 54, 52, 111, 50, 53, 53]⟩ : ByteArray), (⟨#[111, 54, 52, 63, 40, 117, 117, 117, 117, 117, 113, 113, 117, 117, 113, 113, 117, 117, 117, 117, 117, 117, 41, 63, 40, 117, 117, 117, 117, 117, 113, 113, 117, 117, 113, 113, 117, 117, 117, 117, 117, 117, 41]⟩ : ByteArray), (⟨#[63, 40, 117, 117, 117, 117, 117, 113, 113, 117, 117, 113, 113, 117, 117, 117, 117, 117, 117, 41]⟩ : ByteArray))) else (if a0 = 4 then (some ((⟨#[111, 54, 52, 117]⟩ : ByteArray), (⟨#[63, 40, 117, 117, 117, 117, 117, 113, 113, 117, 117, 113, 113, 117, 117, 117, 117, 117, 117, 41, 117]⟩ : ByteArray), (⟨#[63, 40, 117, 117, 117, 117, 117, 113, 113, 117, 117, 113, 113, 117, 117, 117, 117, 117, 117, 41]⟩ : ByteArray))) else (if a0 = 5 then (some ((⟨#[111, 54, 52]⟩ : ByteArray), (⟨#[63, 40, 117, 117, 117, 117, 117, 113, 113, 117, 117, 113, 113, 117, 117, 117, 117, 117, 117, 41, 111, 49, 48, 50, 52]⟩ : ByteArray), (⟨#[63, 40, 117, 117, 117, 117, 117, 113, 113, 117, 117, 113, 113, 117, 117, 117, 117, 117, 117, 41]⟩ : ByteArray))) else (if a0 = 6 then (some ((⟨#[111, 54, 52, 113, 117]⟩ : ByteArray), (⟨#[63, 40, 117, 117, 117, 117, 117, 113, 113, 117, 117, 113, 113, 117, 117, 117, 117, 117, 117, 41, 117, 98, 111, 53, 49, 50]⟩ : ByteArray), (⟨#[63, 40, 117, 117, 117, 117, 117, 113, 113, 117, 117, 113, 113, 117, 117, 117, 117, 117, 117, 41]⟩ : ByteArray))) else (if a0 = 7 then (some ((⟨#[111, 54, 52, 113, 117, 117, 111, 53, 49, 50]⟩ : ByteArray), (⟨#[63, 40, 113, 117, 117, 117, 117, 41, 63, 40, 117, 117, 117, 117, 117, 113, 113, 117, 117, 113, 113, 117, 117, 117, 117, 117, 117, 41, 117, 117, 102, 56]⟩ : ByteArray), (⟨#[63, 40, 113, 117, 117, 117, 117, 41, 63, 40, 117, 117, 117, 117, 117, 113, 113, 117, 117, 113, 113, 117, 117, 117, 117, 117, 117, 41]⟩ : ByteArray))) else (if a0 = 8 then (some ((⟨#[111, 54, 52, 111, 50, 53, 53, 60, 48, 58, 63, 40, 117, 41, 63, 40, 117, 41, 63, 40, 117, 41, 63, 40, 113, 41, 60, 48, 58, 44, 49, 58, 44, 50, 58, 117, 117, 62, 60, 48, 58, 44, 49, 58, 44, 50, 58, 117, 117, 62, 44, 49, 58, 63, 40, 117, 41, 63, 40, 117, 41, 63, 40, 117, 41, 63, 40, 113, 41, 60, 48, 58, 44, 49, 58, 44, 50, 58, 117, 117, 62, 60, 48, 58, 44, 49, 58, 44, 50, 58, 117, 117, 62, 44, 50, 58, 102, 56, 62]⟩ : ByteArray), (⟨#[63, 40, 111, 54, 52, 41, 63, 40, 117, 117, 117, 117, 117, 113, 113, 117, 117, 113, 113, 117, 117, 117, 117, 117, 117, 41, 63, 40, 113, 117, 117, 117, 117, 41, 63, 40, 117, 117, 117, 117, 117, 113, 113, 117, 117, 113, 113, 117, 117, 117, 117, 117, 117, 41]⟩ : ByteArray), (⟨#[63, 40, 113, 117, 117, 117, 117, 41, 63, 40, 117, 117, 117, 117, 117, 113, 113, 117, 117, 113, 113, 117, 117, 117, 117, 117, 117, 41]⟩ : ByteArray))) else (if a0 = 9 then (some ((⟨#[111, 54, 52, 111, 50, 53, 53, 63, 40, 117, 41, 63, 40, 117, 41, 63, 40, 117, 41, 63, 40, 113, 41, 60, 48, 58, 44, 49, 58, 44, 50, 58, 117, 117, 62, 60, 48, 58, 44, 49, 58, 44, 50, 58, 117, 117, 62]⟩ : ByteArray), (⟨#[63, 40, 111, 54, 52, 41, 63, 40, 117, 117, 117, 117, 117, 113, 113, 117, 117, 113, 113, 117, 117, 117, 117, 117, 117, 41, 63, 40, 113, 117, 117, 117, 117, 41, 63, 40, 117, 117, 117, 117, 117, 113, 113, 117, 117, 113, 113, 117, 117, 117, 117, 117, 117, 41]⟩ : ByteArray), (⟨#[63, 40, 113, 117, 117, 117, 117, 41, 63, 40, 117, 117, 117, 117, 117, 113, 113, 117, 117, 113, 113, 117, 117, 117, 117, 117, 117, 41]⟩ : ByteArray))) else (if a0 = 10 then (some ((⟨#[111, 54, 52, 111, 50, 53, 53, 63, 40, 117, 41, 63, 40, 117, 41, 63, 40, 117, 41, 63, 40, 113, 41, 60, 48, 58, 44, 49, 58, 44, 50, 58, 117, 117, 62, 60, 48, 58, 44, 49, 58, 44, 50, 58, 117, 117, 62, 111, 49, 48, 50, 52]⟩ : ByteArray), (⟨#[63, 40, 111, 54, 52, 41, 63, 40, 117, 117, 117, 117, 117, 113, 113, 117, 117, 113, 113, 117, 117, 117, 117, 117, 117, 41, 63, 40, 113, 117, 117, 117, 117, 41, 63, 40, 117, 117, 117, 117, 117, 113, 113, 117, 117, 113, 113, 117, 117, 117, 117, 117, 117, 41]⟩ : ByteArray), (⟨#[63, 40, 113, 117, 117, 117, 117, 41, 63, 40, 117, 117, 117, 117, 117, 113, 113, 117, 117, 113, 113, 117, 117, 117, 117, 117, 117, 41]⟩ : ByteArray))) else (if a0 = 11 then (some ((⟨#[111, 54, 52, 111, 50, 53, 53, 60, 51, 58, 63, 40, 117, 41, 63, 40, 117, 41, 63, 40, 117, 41, 63, 40, 113, 41, 60, 48, 58, 44, 49, 58, 44, 50, 58, 117, 117, 62, 60, 48, 58, 44, 49, 58, 44, 50, 58, 117, 117, 62, 117, 117, 44, 52, 58, 63, 40, 117, 41, 63, 40, 117, 41, 63, 40, 117, 41, 63, 40, 113, 41, 60, 48, 58, 44, 49, 58, 44, 50, 58, 117, 117, 62, 60, 48, 58, 44, 49, 58, 44, 50, 58, 117, 117, 62, 117, 117, 44, 54, 58, 63, 40, 117, 41, 63, 40, 117, 41, 63, 40, 117, 41, 63, 40, 113, 41, 60, 48, 58, 44, 49, 58, 44, 50, 58, 117, 117, 62, 60, 48, 58, 44, 49, 58, 44, 50, 58, 117, 117, 62, 44, 55, 58, 63, 40, 117, 41, 63, 40, 117, 41, 63, 40, 117, 41, 63, 40, 113, 41, 60, 48, 58, 44, 49, 58, 44, 50, 58, 117, 117, 62, 60, 48, 58, 44, 49, 58, 44, 50, 58, 117, 117, 62, 44, 45, 58, 62]⟩ : ByteArray), (⟨#[63, 40, 111, 54, 52, 41, 63, 40, 117, 117, 117, 117, 117, 113, 113, 117, 117, 113, 113, 117, 117, 117, 117, 117, 117, 41, 63, 40, 113, 117, 117, 117, 117, 41, 63, 40, 117, 117, 117, 117, 117, 113, 113, 117, 117, 113, 113, 117, 117, 117, 117, 117, 117, 41]⟩ : ByteArray), (⟨#[63, 40, 113, 117, 117, 117, 117, 41, 63, 40, 117, 117, 117, 117, 117, 113, 113, 117, 117, 113, 113, 117, 117, 117, 117, 117, 117, 41]⟩ : ByteArray))) else (if a0 = 12 then (coracleref10_nfs.j0 k a0 (a0 == 12)) else (coracleref10_nfs.j0 k a0 (a0 == 13)))))))))))))
theorem coracleref10_nfs.mono_l : ∀ k, (∀ y0 y1, LeO (coracleref10_nfs.j0 k y0 y1) (coracleref10_nfs.j0 (k + 1) y0 y1))
  | 0 => fun _ _ r h => by simp [coracleref10_nfs.j0] at h
  | k + 1 => by
    have ih0 := coracleref10_nfs.mono_l k
    · intro y0 y1
      unfold coracleref10_nfs.j0
      repeat' first
      | (with_reducible exact ih0 _ _)
      | (with_reducible exact LeO.refl _)
      | (with_reducible exact LeO.none _)
      | (with_reducible refine LeO.ite ?_ ?_)
      | (with_reducible refine LeO.bind ?_ (fun _ => ?_))
      | exact ih0 _ _
      | exact LeO.none _
      | refine LeO.ite ?_ ?_
      | refine LeO.bind ?_ (fun _ => ?_)
theorem coracleref10_nfs.mono : ∀ a0 k, LeO (coracleref10_nfs.f k a0) (coracleref10_nfs.f (k + 1) a0) := by
  intro a0 k
  have ih0 := coracleref10_nfs.mono_l k
  unfold coracleref10_nfs.f
  repeat' first
      | (with_reducible exact ih0 _ _)
      | (with_reducible exact LeO.refl _)
      | (with_reducible exact LeO.none _)
      | (with_reducible refine LeO.ite ?_ ?_)
      | (with_reducible refine LeO.bind ?_ (fun _ => ?_))
      | exact ih0 _ _
      | exact LeO.none _
      | refine LeO.ite ?_ ?_
      | refine LeO.bind ?_ (fun _ => ?_)
set_option maxHeartbeats 8000000 in
set_option maxRecDepth 100000 in
theorem coracleref10_nfs.calls (k : Nat) (a0 : Int) (r1 : ByteArray) (r2 : ByteArray) (r3 : ByteArray) (w : World) (h : coracleref10_nfs.f k a0 = some (r1, r2, r3)) :
    Calls Tryd.prog 12 #[.int .i64 a0] w fun e w' => e = .returned (.tuple #[.string r1, .string r2, .string r3]) ∧ Drawn0 w w' := by
  have H : (if a0 = 1 then (some ((⟨#[111, 54, 52]⟩ : ByteArray), (⟨#[117, 117, 117, 117, 117, 113, 113, 117, 117, 113, 113, 117, 117, 117, 117, 117, 117]⟩ : ByteArray), (⟨#[]⟩ : ByteArray))) else (if a0 = 2 then (some ((⟨#[111, 54, 52, 63, 40, 117, 41, 63, 40, 117, 41, 63, 40, 117, 41, 63, 40, 113, 41, 60, 48, 58, 44, 49, 58, 44, 50, 58, 117, 117, 62, 60, 48, 58, 44, 49, 58, 44, 50, 58, 117, 117, 62, 63, 40, 117, 117, 41]⟩ : ByteArray), (⟨#[63, 40, 113, 117, 117, 117, 117, 41, 63, 40, 117, 117, 117, 117, 117, 113, 113, 117, 117, 113, 113, 117, 117, 117, 117, 117, 117, 41]⟩ : ByteArray), (⟨#[63, 40, 113, 117, 117, 117, 117, 41, 63, 40, 117, 117, 117, 117, 117, 113, 113, 117, 117, 113, 113, 117, 117, 117, 117, 117, 117, 41]⟩ : ByteArray))) else (if a0 = 3 then (some ((⟨#[111, 54, 52, 111, 50, 53, 53]⟩ : ByteArray), (⟨#[111, 54, 52, 63, 40, 117, 117, 117, 117, 117, 113, 113, 117, 117, 113, 113, 117, 117, 117, 117, 117, 117, 41, 63, 40, 117, 117, 117, 117, 117, 113, 113, 117, 117, 113, 113, 117, 117, 117, 117, 117, 117, 41]⟩ : ByteArray), (⟨#[63, 40, 117, 117, 117, 117, 117, 113, 113, 117, 117, 113, 113, 117, 117, 117, 117, 117, 117, 41]⟩ : ByteArray))) else (if a0 = 4 then (some ((⟨#[111, 54, 52, 117]⟩ : ByteArray), (⟨#[63, 40, 117, 117, 117, 117, 117, 113, 113, 117, 117, 113, 113, 117, 117, 117, 117, 117, 117, 41, 117]⟩ : ByteArray), (⟨#[63, 40, 117, 117, 117, 117, 117, 113, 113, 117, 117, 113, 113, 117, 117, 117, 117, 117, 117, 41]⟩ : ByteArray))) else (if a0 = 5 then (some ((⟨#[111, 54, 52]⟩ : ByteArray), (⟨#[63, 40, 117, 117, 117, 117, 117, 113, 113, 117, 117, 113, 113, 117, 117, 117, 117, 117, 117, 41, 111, 49, 48, 50, 52]⟩ : ByteArray), (⟨#[63, 40, 117, 117, 117, 117, 117, 113, 113, 117, 117, 113, 113, 117, 117, 117, 117, 117, 117, 41]⟩ : ByteArray))) else (if a0 = 6 then (some ((⟨#[111, 54, 52, 113, 117]⟩ : ByteArray), (⟨#[63, 40, 117, 117, 117, 117, 117, 113, 113, 117, 117, 113, 113, 117, 117, 117, 117, 117, 117, 41, 117, 98, 111, 53, 49, 50]⟩ : ByteArray), (⟨#[63, 40, 117, 117, 117, 117, 117, 113, 113, 117, 117, 113, 113, 117, 117, 117, 117, 117, 117, 41]⟩ : ByteArray))) else (if a0 = 7 then (some ((⟨#[111, 54, 52, 113, 117, 117, 111, 53, 49, 50]⟩ : ByteArray), (⟨#[63, 40, 113, 117, 117, 117, 117, 41, 63, 40, 117, 117, 117, 117, 117, 113, 113, 117, 117, 113, 113, 117, 117, 117, 117, 117, 117, 41, 117, 117, 102, 56]⟩ : ByteArray), (⟨#[63, 40, 113, 117, 117, 117, 117, 41, 63, 40, 117, 117, 117, 117, 117, 113, 113, 117, 117, 113, 113, 117, 117, 117, 117, 117, 117, 41]⟩ : ByteArray))) else (if a0 = 8 then (some ((⟨#[111, 54, 52, 111, 50, 53, 53, 60, 48, 58, 63, 40, 117, 41, 63, 40, 117, 41, 63, 40, 117, 41, 63, 40, 113, 41, 60, 48, 58, 44, 49, 58, 44, 50, 58, 117, 117, 62, 60, 48, 58, 44, 49, 58, 44, 50, 58, 117, 117, 62, 44, 49, 58, 63, 40, 117, 41, 63, 40, 117, 41, 63, 40, 117, 41, 63, 40, 113, 41, 60, 48, 58, 44, 49, 58, 44, 50, 58, 117, 117, 62, 60, 48, 58, 44, 49, 58, 44, 50, 58, 117, 117, 62, 44, 50, 58, 102, 56, 62]⟩ : ByteArray), (⟨#[63, 40, 111, 54, 52, 41, 63, 40, 117, 117, 117, 117, 117, 113, 113, 117, 117, 113, 113, 117, 117, 117, 117, 117, 117, 41, 63, 40, 113, 117, 117, 117, 117, 41, 63, 40, 117, 117, 117, 117, 117, 113, 113, 117, 117, 113, 113, 117, 117, 117, 117, 117, 117, 41]⟩ : ByteArray), (⟨#[63, 40, 113, 117, 117, 117, 117, 41, 63, 40, 117, 117, 117, 117, 117, 113, 113, 117, 117, 113, 113, 117, 117, 117, 117, 117, 117, 41]⟩ : ByteArray))) else (if a0 = 9 then (some ((⟨#[111, 54, 52, 111, 50, 53, 53, 63, 40, 117, 41, 63, 40, 117, 41, 63, 40, 117, 41, 63, 40, 113, 41, 60, 48, 58, 44, 49, 58, 44, 50, 58, 117, 117, 62, 60, 48, 58, 44, 49, 58, 44, 50, 58, 117, 117, 62]⟩ : ByteArray), (⟨#[63, 40, 111, 54, 52, 41, 63, 40, 117, 117, 117, 117, 117, 113, 113, 117, 117, 113, 113, 117, 117, 117, 117, 117, 117, 41, 63, 40, 113, 117, 117, 117, 117, 41, 63, 40, 117, 117, 117, 117, 117, 113, 113, 117, 117, 113, 113, 117, 117, 117, 117, 117, 117, 41]⟩ : ByteArray), (⟨#[63, 40, 113, 117, 117, 117, 117, 41, 63, 40, 117, 117, 117, 117, 117, 113, 113, 117, 117, 113, 113, 117, 117, 117, 117, 117, 117, 41]⟩ : ByteArray))) else (if a0 = 10 then (some ((⟨#[111, 54, 52, 111, 50, 53, 53, 63, 40, 117, 41, 63, 40, 117, 41, 63, 40, 117, 41, 63, 40, 113, 41, 60, 48, 58, 44, 49, 58, 44, 50, 58, 117, 117, 62, 60, 48, 58, 44, 49, 58, 44, 50, 58, 117, 117, 62, 111, 49, 48, 50, 52]⟩ : ByteArray), (⟨#[63, 40, 111, 54, 52, 41, 63, 40, 117, 117, 117, 117, 117, 113, 113, 117, 117, 113, 113, 117, 117, 117, 117, 117, 117, 41, 63, 40, 113, 117, 117, 117, 117, 41, 63, 40, 117, 117, 117, 117, 117, 113, 113, 117, 117, 113, 113, 117, 117, 117, 117, 117, 117, 41]⟩ : ByteArray), (⟨#[63, 40, 113, 117, 117, 117, 117, 41, 63, 40, 117, 117, 117, 117, 117, 113, 113, 117, 117, 113, 113, 117, 117, 117, 117, 117, 117, 41]⟩ : ByteArray))) else (if a0 = 11 then (some ((⟨#[111, 54, 52, 111, 50, 53, 53, 60, 51, 58, 63, 40, 117, 41, 63, 40, 117, 41, 63, 40, 117, 41, 63, 40, 113, 41, 60, 48, 58, 44, 49, 58, 44, 50, 58, 117, 117, 62, 60, 48, 58, 44, 49, 58, 44, 50, 58, 117, 117, 62, 117, 117, 44, 52, 58, 63, 40, 117, 41, 63, 40, 117, 41, 63, 40, 117, 41, 63, 40, 113, 41, 60, 48, 58, 44, 49, 58, 44, 50, 58, 117, 117, 62, 60, 48, 58, 44, 49, 58, 44, 50, 58, 117, 117, 62, 117, 117, 44, 54, 58, 63, 40, 117, 41, 63, 40, 117, 41, 63, 40, 117, 41, 63, 40, 113, 41, 60, 48, 58, 44, 49, 58, 44, 50, 58, 117, 117, 62, 60, 48, 58, 44, 49, 58, 44, 50, 58, 117, 117, 62, 44, 55, 58, 63, 40, 117, 41, 63, 40, 117, 41, 63, 40, 117, 41, 63, 40, 113, 41, 60, 48, 58, 44, 49, 58, 44, 50, 58, 117, 117, 62, 60, 48, 58, 44, 49, 58, 44, 50, 58, 117, 117, 62, 44, 45, 58, 62]⟩ : ByteArray), (⟨#[63, 40, 111, 54, 52, 41, 63, 40, 117, 117, 117, 117, 117, 113, 113, 117, 117, 113, 113, 117, 117, 117, 117, 117, 117, 41, 63, 40, 113, 117, 117, 117, 117, 41, 63, 40, 117, 117, 117, 117, 117, 113, 113, 117, 117, 113, 113, 117, 117, 117, 117, 117, 117, 41]⟩ : ByteArray), (⟨#[63, 40, 113, 117, 117, 117, 117, 41, 63, 40, 117, 117, 117, 117, 117, 113, 113, 117, 117, 113, 113, 117, 117, 117, 117, 117, 117, 41]⟩ : ByteArray))) else (if a0 = 12 then (coracleref10_nfs.j0 k a0 (a0 == 12)) else (coracleref10_nfs.j0 k a0 (a0 == 13)))))))))))))) = some (r1, r2, r3) := h
  clear h
  by_cases c2 : a0 = 1
  · rw [if_pos c2] at H
    have c2b0 : (a0 == 1) = true := beq_iff_eq.mpr c2
    have c2b1 : (a0 != 1) = false := bne_eq_false_iff_eq.mpr c2
    clear c2
    simp only [Option.some.injEq, Prod.mk.injEq] at H
    obtain ⟨rfl, rfl, rfl⟩ := H
    go_enter Tryd.func12, Tryd.ntmps12
    go_wp2
    go_ret3
    exact ⟨by first | rfl | (simp; done) | (simp [*]; done), by repeat (first | exact Drawn0.refl _ | apply Drawn0.step)⟩
  · rw [if_neg c2] at H
    have c2b0 : (a0 == 1) = false := beq_eq_false_iff_ne.mpr c2
    have c2b1 : (a0 != 1) = true := bne_iff_ne.mpr c2
    by_cases c3 : a0 = 2
    · rw [if_pos c3] at H
      have c3b0 : (a0 == 2) = true := beq_iff_eq.mpr c3
      have c3b1 : (a0 != 2) = false := bne_eq_false_iff_eq.mpr c3
      clear c3
      simp only [Option.some.injEq, Prod.mk.injEq] at H
      obtain ⟨rfl, rfl, rfl⟩ := H
      go_enter Tryd.func12, Tryd.ntmps12
      go_wp2
      go_ret3
      exact ⟨by first | rfl | (simp; done) | (simp [*]; done), by repeat (first | exact Drawn0.refl _ | apply Drawn0.step)⟩
    · rw [if_neg c3] at H
      have c3b0 : (a0 == 2) = false := beq_eq_false_iff_ne.mpr c3
      have c3b1 : (a0 != 2) = true := bne_iff_ne.mpr c3
      by_cases c4 : a0 = 3
      · rw [if_pos c4] at H
        have c4b0 : (a0 == 3) = true := beq_iff_eq.mpr c4
        have c4b1 : (a0 != 3) = false := bne_eq_false_iff_eq.mpr c4
        clear c4
        simp only [Option.some.injEq, Prod.mk.injEq] at H
        obtain ⟨rfl, rfl, rfl⟩ := H
        go_enter Tryd.func12, Tryd.ntmps12
        go_wp2
        go_ret3
        exact ⟨by first | rfl | (simp; done) | (simp [*]; done), by repeat (first | exact Drawn0.refl _ | apply Drawn0.step)⟩
      · rw [if_neg c4] at H
        have c4b0 : (a0 == 3) = false := beq_eq_false_iff_ne.mpr c4
        have c4b1 : (a0 != 3) = true := bne_iff_ne.mpr c4
        by_cases c5 : a0 = 4
        · rw [if_pos c5] at H
          have c5b0 : (a0 == 4) = true := beq_iff_eq.mpr c5
          have c5b1 : (a0 != 4) = false := bne_eq_false_iff_eq.mpr c5
          clear c5
          simp only [Option.some.injEq, Prod.mk.injEq] at H
          obtain ⟨rfl, rfl, rfl⟩ := H
          go_enter Tryd.func12, Tryd.ntmps12
          go_wp2
          go_ret3
          exact ⟨by first | rfl | (simp; done) | (simp [*]; done), by repeat (first | exact Drawn0.refl _ | apply Drawn0.step)⟩
        · rw [if_neg c5] at H
          have c5b0 : (a0 == 4) = false := beq_eq_false_iff_ne.mpr c5
          have c5b1 : (a0 != 4) = true := bne_iff_ne.mpr c5
          by_cases c6 : a0 = 5
          · rw [if_pos c6] at H
            have c6b0 : (a0 == 5) = true := beq_iff_eq.mpr c6
            have c6b1 : (a0 != 5) = false := bne_eq_false_iff_eq.mpr c6
            clear c6
            simp only [Option.some.injEq, Prod.mk.injEq] at H
            obtain ⟨rfl, rfl, rfl⟩ := H
            go_enter Tryd.func12, Tryd.ntmps12
            go_wp2
            go_ret3
            exact ⟨by first | rfl | (simp; done) | (simp [*]; done), by repeat (first | exact Drawn0.refl _ | apply Drawn0.step)⟩
          · rw [if_neg c6] at H
            have c6b0 : (a0 == 5) = false := beq_eq_false_iff_ne.mpr c6
            have c6b1 : (a0 != 5) = true := bne_iff_ne.mpr c6
            by_cases c7 : a0 = 6
            · rw [if_pos c7] at H
              have c7b0 : (a0 == 6) = true := beq_iff_eq.mpr c7
              have c7b1 : (a0 != 6) = false := bne_eq_false_iff_eq.mpr c7
              clear c7
              simp only [Option.some.injEq, Prod.mk.injEq] at H
              obtain ⟨rfl, rfl, rfl⟩ := H
              go_enter Tryd.func12, Tryd.ntmps12
              go_wp2
              go_ret3
              exact ⟨by first | rfl | (simp; done) | (simp [*]; done), by repeat (first | exact Drawn0.refl _ | apply Drawn0.step)⟩
            · rw [if_neg c7] at H
              have c7b0 : (a0 == 6) = false := beq_eq_false_iff_ne.mpr c7
              have c7b1 : (a0 != 6) = true := bne_iff_ne.mpr c7
              by_cases c8 : a0 = 7
              · rw [if_pos c8] at H
                have c8b0 : (a0 == 7) = true := beq_iff_eq.mpr c8
                have c8b1 : (a0 != 7) = false := bne_eq_false_iff_eq.mpr c8
                clear c8
                simp only [Option.some.injEq, Prod.mk.injEq] at H
                obtain ⟨rfl, rfl, rfl⟩ := H
                go_enter Tryd.func12, Tryd.ntmps12
                go_wp2
                go_ret3
                exact ⟨by first | rfl | (simp; done) | (simp [*]; done), by repeat (first | exact Drawn0.refl _ | apply Drawn0.step)⟩
              · rw [if_neg c8] at H
                have c8b0 : (a0 == 7) = false := beq_eq_false_iff_ne.mpr c8
                have c8b1 : (a0 != 7) = true := bne_iff_ne.mpr c8
                by_cases c9 : a0 = 8
                · rw [if_pos c9] at H
                  have c9b0 : (a0 == 8) = true := beq_iff_eq.mpr c9
                  have c9b1 : (a0 != 8) = false := bne_eq_false_iff_eq.mpr c9
                  clear c9
                  simp only [Option.some.injEq, Prod.mk.injEq] at H
                  obtain ⟨rfl, rfl, rfl⟩ := H
                  go_enter Tryd.func12, Tryd.ntmps12
                  go_wp2
                  go_ret3
                  exact ⟨by first | rfl | (simp; done) | (simp [*]; done), by repeat (first | exact Drawn0.refl _ | apply Drawn0.step)⟩
                · rw [if_neg c9] at H
                  have c9b0 : (a0 == 8) = false := beq_eq_false_iff_ne.mpr c9
                  have c9b1 : (a0 != 8) = true := bne_iff_ne.mpr c9
                  by_cases c10 : a0 = 9
                  · rw [if_pos c10] at H
                    have c10b0 : (a0 == 9) = true := beq_iff_eq.mpr c10
                    have c10b1 : (a0 != 9) = false := bne_eq_false_iff_eq.mpr c10
                    clear c10
                    simp only [Option.some.injEq, Prod.mk.injEq] at H
                    obtain ⟨rfl, rfl, rfl⟩ := H
                    go_enter Tryd.func12, Tryd.ntmps12
                    go_wp2
                    go_ret3
                    exact ⟨by first | rfl | (simp; done) | (simp [*]; done), by repeat (first | exact Drawn0.refl _ | apply Drawn0.step)⟩
                  · rw [if_neg c10] at H
                    have c10b0 : (a0 == 9) = false := beq_eq_false_iff_ne.mpr c10
                    have c10b1 : (a0 != 9) = true := bne_iff_ne.mpr c10
                    by_cases c11 : a0 = 10
                    · rw [if_pos c11] at H
                      have c11b0 : (a0 == 10) = true := beq_iff_eq.mpr c11
                      have c11b1 : (a0 != 10) = false := bne_eq_false_iff_eq.mpr c11
                      clear c11
                      simp only [Option.some.injEq, Prod.mk.injEq] at H
                      obtain ⟨rfl, rfl, rfl⟩ := H
                      go_enter Tryd.func12, Tryd.ntmps12
                      go_wp2
                      go_ret3
                      exact ⟨by first | rfl | (simp; done) | (simp [*]; done), by repeat (first | exact Drawn0.refl _ | apply Drawn0.step)⟩
                    · rw [if_neg c11] at H
                      have c11b0 : (a0 == 10) = false := beq_eq_false_iff_ne.mpr c11
                      have c11b1 : (a0 != 10) = true := bne_iff_ne.mpr c11
                      by_cases c12 : a0 = 11
                      · rw [if_pos c12] at H
                        have c12b0 : (a0 == 11) = true := beq_iff_eq.mpr c12
                        have c12b1 : (a0 != 11) = false := bne_eq_false_iff_eq.mpr c12
                        clear c12
                        simp only [Option.some.injEq, Prod.mk.injEq] at H
                        obtain ⟨rfl, rfl, rfl⟩ := H
                        go_enter Tryd.func12, Tryd.ntmps12
                        go_wp2
                        go_ret3
                        exact ⟨by first | rfl | (simp; done) | (simp [*]; done), by repeat (first | exact Drawn0.refl _ | apply Drawn0.step)⟩
                      · rw [if_neg c12] at H
                        have c12b0 : (a0 == 11) = false := beq_eq_false_iff_ne.mpr c12
                        have c12b1 : (a0 != 11) = true := bne_iff_ne.mpr c12
                        have HC13 := Aside0.mk H
                        clear H
                        go_enter Tryd.func12, Tryd.ntmps12
                        go_upto_if 28 with (fail)
                        go_cut [28] (fun v28 wc => ∃ (kq : Nat) (x28_12 : Bool), v28 = .bool x28_12 ∧ Aside0 (coracleref10_nfs.j0 kq a0 x28_12 = some (r1, r2, r3)) ∧ Aside0 (kq ≤ k) ∧ Drawn0 w wc)
                        case first =>
                          have H := HC13.out
                          clear HC13
                          by_cases c14 : a0 = 12
                          · rw [if_pos c14] at H
                            have c14b0 : (a0 == 12) = true := beq_iff_eq.mpr c14
                            have c14b1 : (a0 != 12) = false := bne_eq_false_iff_eq.mpr c14
                            clear c14
                            (first | rw [c14b0] | (simp only [i64_w, i32_w]; rw [c14b0]) | skip)
                            have H' := Aside0.mk H
                            clear H
                            go_wp2
                            go_meet
                            case rel => exact ⟨_, ((a0 == 12)), (by first | rfl | (simp; done) | (simp [*]; done)), H', ⟨by first | omega | exact Nat.le_refl _⟩, by repeat (first | exact Drawn0.refl _ | apply Drawn0.step)⟩
                          · rw [if_neg c14] at H
                            have c14b0 : (a0 == 12) = false := beq_eq_false_iff_ne.mpr c14
                            have c14b1 : (a0 != 12) = true := bne_iff_ne.mpr c14
                            (first | rw [c14b0] | (simp only [i64_w, i32_w]; rw [c14b0]) | skip)
                            have H' := Aside0.mk H
                            clear H
                            go_wp2
                            go_meet
                            case rel => exact ⟨_, ((a0 == 13)), (by first | rfl | (simp; done) | (simp [*]; done)), H', ⟨by first | omega | exact Nat.le_refl _⟩, by repeat (first | exact Drawn0.refl _ | apply Drawn0.step)⟩
                        case rest =>
                          clear HC13
                          try clear c1
                          try clear c2
                          try clear c2b0
                          try clear c2b1
                          try clear p2
                          try clear c3
                          try clear c3b0
                          try clear c3b1
                          try clear c4
                          try clear c4b0
                          try clear c4b1
                          try clear c5
                          try clear c5b0
                          try clear c5b1
                          try clear c6
                          try clear c6b0
                          try clear c6b1
                          try clear c7
                          try clear c7b0
                          try clear c7b1
                          try clear c8
                          try clear c8b0
                          try clear c8b1
                          try clear c9
                          try clear c9b0
                          try clear c9b1
                          try clear c10
                          try clear c10b0
                          try clear c10b1
                          try clear c11
                          try clear c11b0
                          try clear c11b1
                          try clear c12
                          try clear c12b0
                          try clear c12b1
                          try clear c14
                          try clear c14b0
                          try clear c14b1
                          obtain ⟨kq, x28_12, rfl, HA, HJ12, ⟨mc12, rfl⟩⟩ := hcut
                          cases kq with
                          | zero => exact absurd HA.out (by simp [coracleref10_nfs.j0])
                          | succ kj12 =>
                            have H := HA.out
                            clear HA
                            simp only [coracleref10_nfs.j0] at H
                            by_cases c15 : x28_12 = true
                            · subst c15
                              have H1 : (some ((⟨#[111, 54, 52, 111, 50, 53, 53]⟩ : ByteArray), (⟨#[63, 40, 113, 117, 117, 117, 117, 41, 63, 40, 117, 117, 117, 117, 117, 113, 113, 117, 117, 113, 113, 117, 117, 117, 117, 117, 117, 41]⟩ : ByteArray), (⟨#[63, 40, 113, 117, 117, 117, 117, 41, 63, 40, 117, 117, 117, 117, 117, 113, 113, 117, 117, 113, 113, 117, 117, 117, 117, 117, 117, 41]⟩ : ByteArray))) = some (r1, r2, r3) := by rw [if_pos rfl] at H; exact H
                              clear H
                              have H := H1
                              clear H1
                              simp only [Option.some.injEq, Prod.mk.injEq] at H
                              obtain ⟨rfl, rfl, rfl⟩ := H
                              go_wp2
                              go_ret3
                              exact ⟨by first | rfl | (simp; done) | (simp [*]; done), by repeat (first | exact Drawn0.refl _ | apply Drawn0.step)⟩
                            · replace c15 := Bool.eq_false_iff.mpr c15
                              subst c15
                              have H1 : (if a0 = 14 then (some ((⟨#[111, 54, 52, 111, 50, 53, 53, 111, 54, 52, 111, 50, 53, 53]⟩ : ByteArray), (⟨#[63, 40, 113, 117, 117, 117, 117, 41, 63, 40, 117, 117, 117, 117, 117, 113, 113, 117, 117, 113, 113, 117, 117, 117, 117, 117, 117, 41, 63, 40, 113, 117, 117, 117, 117, 41, 63, 40, 117, 117, 117, 117, 117, 113, 113, 117, 117, 113, 113, 117, 117, 117, 117, 117, 117, 41]⟩ : ByteArray), (⟨#[63, 40, 113, 117, 117, 117, 117, 41, 63, 40, 117, 117, 117, 117, 117, 113, 113, 117, 117, 113, 113, 117, 117, 117, 117, 117, 117, 41, 63, 40, 113, 117, 117, 117, 117, 41, 63, 40, 117, 117, 117, 117, 117, 113, 113, 117, 117, 113, 113, 117, 117, 117, 117, 117, 117, 41]⟩ : ByteArray))) else (if a0 = 15 then (some ((⟨#[111, 54, 52, 111, 54, 52, 111, 50, 53, 53]⟩ : ByteArray), (⟨#[63, 40, 117, 117, 117, 117, 117, 113, 113, 117, 117, 113, 113, 117, 117, 117, 117, 117, 117, 41, 63, 40, 113, 117, 117, 117, 117, 41, 63, 40, 117, 117, 117, 117, 117, 113, 113, 117, 117, 113, 113, 117, 117, 117, 117, 117, 117, 41]⟩ : ByteArray), (⟨#[63, 40, 117, 117, 117, 117, 117, 113, 113, 117, 117, 113, 113, 117, 117, 117, 117, 117, 117, 41, 63, 40, 113, 117, 117, 117, 117, 41, 63, 40, 117, 117, 117, 117, 117, 113, 113, 117, 117, 113, 113, 117, 117, 117, 117, 117, 117, 41]⟩ : ByteArray))) else (if a0 = 16 then (some ((⟨#[111, 54, 52, 113, 102, 56, 117]⟩ : ByteArray), (⟨#[63, 40, 117, 117, 117, 117, 117, 113, 113, 117, 117, 113, 113, 117, 117, 117, 117, 117, 117, 41, 102, 56, 42, 40, 113, 111, 50, 53, 53, 113, 41, 98]⟩ : ByteArray), (⟨#[63, 40, 117, 117, 117, 117, 117, 113, 113, 117, 117, 113, 113, 117, 117, 117, 117, 117, 117, 41]⟩ : ByteArray))) else (if a0 = 17 then (some ((⟨#[111, 54, 52, 113, 102, 56, 117, 117]⟩ : ByteArray), (⟨#[63, 40, 117, 117, 117, 117, 117, 113, 113, 117, 117, 113, 113, 117, 117, 117, 117, 117, 117, 41, 102, 56, 42, 40, 113, 111, 50, 53, 53, 113, 63, 40, 117, 117, 117, 117, 117, 113, 113, 117, 117, 113, 113, 117, 117, 117, 117, 117, 117, 41, 63, 40, 111, 54, 52, 41, 41, 98]⟩ : ByteArray), (⟨#[63, 40, 117, 117, 117, 117, 117, 113, 113, 117, 117, 113, 113, 117, 117, 117, 117, 117, 117, 41]⟩ : ByteArray))) else (if a0 = 18 then (some ((⟨#[111, 54, 52]⟩ : ByteArray), (⟨#[63, 40, 117, 117, 117, 117, 117, 113, 113, 117, 117, 113, 113, 117, 117, 117, 117, 117, 117, 41, 113, 113, 113, 113, 113, 113, 117]⟩ : ByteArray), (⟨#[63, 40, 117, 117, 117, 117, 117, 113, 113, 117, 117, 113, 113, 117, 117, 117, 117, 117, 117, 41]⟩ : ByteArray))) else (if a0 = 19 then (some ((⟨#[111, 54, 52]⟩ : ByteArray), (⟨#[63, 40, 117, 117, 117, 117, 117, 113, 113, 117, 117, 113, 113, 117, 117, 117, 117, 117, 117, 41, 117, 117, 117, 117, 117, 117, 117, 113, 117, 117, 117]⟩ : ByteArray), (⟨#[63, 40, 117, 117, 117, 117, 117, 113, 113, 117, 117, 113, 113, 117, 117, 117, 117, 117, 117, 41]⟩ : ByteArray))) else (if a0 = 20 then (some ((⟨#[111, 54, 52]⟩ : ByteArray), (⟨#[63, 40, 117, 117, 117, 117, 117, 113, 113, 117, 117, 113, 113, 117, 117, 117, 117, 117, 117, 41, 117, 117, 98, 98, 98, 98]⟩ : ByteArray), (⟨#[63, 40, 117, 117, 117, 117, 117, 113, 113, 117, 117, 113, 113, 117, 117, 117, 117, 117, 117, 41]⟩ : ByteArray))) else (some ((⟨#[111, 54, 52, 113, 117]⟩ : ByteArray), (⟨#[63, 40, 113, 117, 117, 117, 117, 41, 63, 40, 117, 117, 117, 117, 117, 113, 113, 117, 117, 113, 113, 117, 117, 117, 117, 117, 117, 41, 102, 56]⟩ : ByteArray), (⟨#[63, 40, 113, 117, 117, 117, 117, 41, 63, 40, 117, 117, 117, 117, 117, 113, 113, 117, 117, 113, 113, 117, 117, 117, 117, 117, 117, 41]⟩ : ByteArray)))))))))) = some (r1, r2, r3) := by rw [if_neg (show ¬ (false = true) by decide)] at H; exact H
                              clear H
                              have H := H1
                              clear H1
                              by_cases c16 : a0 = 14
                              · rw [if_pos c16] at H
                                have c16b0 : (a0 == 14) = true := beq_iff_eq.mpr c16
                                have c16b1 : (a0 != 14) = false := bne_eq_false_iff_eq.mpr c16
                                clear c16
                                simp only [Option.some.injEq, Prod.mk.injEq] at H
                                obtain ⟨rfl, rfl, rfl⟩ := H
                                go_wp2
                                go_ret3
                                exact ⟨by first | rfl | (simp; done) | (simp [*]; done), by repeat (first | exact Drawn0.refl _ | apply Drawn0.step)⟩
                              · rw [if_neg c16] at H
                                have c16b0 : (a0 == 14) = false := beq_eq_false_iff_ne.mpr c16
                                have c16b1 : (a0 != 14) = true := bne_iff_ne.mpr c16
                                by_cases c17 : a0 = 15
                                · rw [if_pos c17] at H
                                  have c17b0 : (a0 == 15) = true := beq_iff_eq.mpr c17
                                  have c17b1 : (a0 != 15) = false := bne_eq_false_iff_eq.mpr c17
                                  clear c17
                                  simp only [Option.some.injEq, Prod.mk.injEq] at H
                                  obtain ⟨rfl, rfl, rfl⟩ := H
                                  go_wp2
                                  go_ret3
                                  exact ⟨by first | rfl | (simp; done) | (simp [*]; done), by repeat (first | exact Drawn0.refl _ | apply Drawn0.step)⟩
                                · rw [if_neg c17] at H
                                  have c17b0 : (a0 == 15) = false := beq_eq_false_iff_ne.mpr c17
                                  have c17b1 : (a0 != 15) = true := bne_iff_ne.mpr c17
                                  by_cases c18 : a0 = 16
                                  · rw [if_pos c18] at H
                                    have c18b0 : (a0 == 16) = true := beq_iff_eq.mpr c18
                                    have c18b1 : (a0 != 16) = false := bne_eq_false_iff_eq.mpr c18
                                    clear c18
                                    simp only [Option.some.injEq, Prod.mk.injEq] at H
                                    obtain ⟨rfl, rfl, rfl⟩ := H
                                    go_wp2
                                    go_ret3
                                    exact ⟨by first | rfl | (simp; done) | (simp [*]; done), by repeat (first | exact Drawn0.refl _ | apply Drawn0.step)⟩
                                  · rw [if_neg c18] at H
                                    have c18b0 : (a0 == 16) = false := beq_eq_false_iff_ne.mpr c18
                                    have c18b1 : (a0 != 16) = true := bne_iff_ne.mpr c18
                                    by_cases c19 : a0 = 17
                                    · rw [if_pos c19] at H
                                      have c19b0 : (a0 == 17) = true := beq_iff_eq.mpr c19
                                      have c19b1 : (a0 != 17) = false := bne_eq_false_iff_eq.mpr c19
                                      clear c19
                                      simp only [Option.some.injEq, Prod.mk.injEq] at H
                                      obtain ⟨rfl, rfl, rfl⟩ := H
                                      go_wp2
                                      go_ret3
                                      exact ⟨by first | rfl | (simp; done) | (simp [*]; done), by repeat (first | exact Drawn0.refl _ | apply Drawn0.step)⟩
                                    · rw [if_neg c19] at H
                                      have c19b0 : (a0 == 17) = false := beq_eq_false_iff_ne.mpr c19
                                      have c19b1 : (a0 != 17) = true := bne_iff_ne.mpr c19
                                      by_cases c20 : a0 = 18
                                      · rw [if_pos c20] at H
                                        have c20b0 : (a0 == 18) = true := beq_iff_eq.mpr c20
                                        have c20b1 : (a0 != 18) = false := bne_eq_false_iff_eq.mpr c20
                                        clear c20
                                        simp only [Option.some.injEq, Prod.mk.injEq] at H
                                        obtain ⟨rfl, rfl, rfl⟩ := H
                                        go_wp2
                                        go_ret3
                                        exact ⟨by first | rfl | (simp; done) | (simp [*]; done), by repeat (first | exact Drawn0.refl _ | apply Drawn0.step)⟩
                                      · rw [if_neg c20] at H
                                        have c20b0 : (a0 == 18) = false := beq_eq_false_iff_ne.mpr c20
                                        have c20b1 : (a0 != 18) = true := bne_iff_ne.mpr c20
                                        by_cases c21 : a0 = 19
                                        · rw [if_pos c21] at H
                                          have c21b0 : (a0 == 19) = true := beq_iff_eq.mpr c21
                                          have c21b1 : (a0 != 19) = false := bne_eq_false_iff_eq.mpr c21
                                          clear c21
                                          simp only [Option.some.injEq, Prod.mk.injEq] at H
                                          obtain ⟨rfl, rfl, rfl⟩ := H
                                          go_wp2
                                          go_ret3
                                          exact ⟨by first | rfl | (simp; done) | (simp [*]; done), by repeat (first | exact Drawn0.refl _ | apply Drawn0.step)⟩
                                        · rw [if_neg c21] at H
                                          have c21b0 : (a0 == 19) = false := beq_eq_false_iff_ne.mpr c21
                                          have c21b1 : (a0 != 19) = true := bne_iff_ne.mpr c21
                                          by_cases c22 : a0 = 20
                                          · rw [if_pos c22] at H
                                            have c22b0 : (a0 == 20) = true := beq_iff_eq.mpr c22
                                            have c22b1 : (a0 != 20) = false := bne_eq_false_iff_eq.mpr c22
                                            clear c22
                                            simp only [Option.some.injEq, Prod.mk.injEq] at H
                                            obtain ⟨rfl, rfl, rfl⟩ := H
                                            go_wp2
                                            go_ret3
                                            exact ⟨by first | rfl | (simp; done) | (simp [*]; done), by repeat (first | exact Drawn0.refl _ | apply Drawn0.step)⟩
                                          · rw [if_neg c22] at H
                                            have c22b0 : (a0 == 20) = false := beq_eq_false_iff_ne.mpr c22
                                            have c22b1 : (a0 != 20) = true := bne_iff_ne.mpr c22
                                            simp only [Option.some.injEq, Prod.mk.injEq] at H
                                            obtain ⟨rfl, rfl, rfl⟩ := H
                                            go_wp2
                                            go_ret3
                                            exact ⟨by first | rfl | (simp; done) | (simp [*]; done), by repeat (first | exact Drawn0.refl _ | apply Drawn0.step)⟩

end Go.Proofs.YtgfljlbecafipaaDoor.PA
